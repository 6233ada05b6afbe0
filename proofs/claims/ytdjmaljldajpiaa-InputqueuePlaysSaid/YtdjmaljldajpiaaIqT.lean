/-
  WHAT IS PROVED HERE: the contract of the reference's Offer. No condition but that the queue lies in memory as stated, and that the numbers are a machine's.
-/
import Derived.Test.YtdjmaljldajpiaaIqS
import Derived.Deep.RegionLaw
namespace Go.Proofs.Ytdjmaljldajpiaa
set_option linter.unusedVariables false
open Go.ChangeShapes Go.WideShapes Go.ChangeAt Go.RowKit

/-- What the reference's Offer answers. -/
def refE (k n : Nat) (L : List OneV) (now player tick : Int) (x : Inp) : Int :=
  if player < 0 ∨ (k : Int) ≤ player then 17 else if ¬ Val x then 1 else if tick < 0 ∨ 6000 ≤ tick ∨ now + 8 < tick then 18 else if tick < (n : Int) then 20 else if 0 ≤ findI L player tick then 4 else 0
theorem name_post {P : Program} {f : Func} {R : Ending → World → Prop} {e : Exit} {a : Go.Act} {W : World} (h : ∀ X, X = W → bodyPost P f R e a X) : bodyPost P f R e a W := h W rfl
theorem vr_new3 (w : World) (o1 o2 : Obj) (T : TypeId) (cs : Array Value) : Vr (((w.alloc o1).alloc o2).alloc (.cells cs T)) (w.heap.size + 1 + 1) T cs := by simpa using Vr.new ((w.alloc o1).alloc o2) T cs
theorem vr_set5 {w : World} {g : Nat} {T : TypeId} {a b c d e : Value} (h : Vr w g T #[a, b, c, d, e]) (a' b' c' d' e' : Value) : Vr (((((w.setCell ⟨g, 0, none⟩ a').setCell ⟨g, 1, none⟩ b').setCell ⟨g, 2, none⟩ c').setCell ⟨g, 3, none⟩ d').setCell ⟨g, 4, none⟩ e') g T #[a', b', c', d', e'] := by
  have := ((((h.set 0 a').set 1 b').set 2 c').set 3 d').set 4 e'
  simpa using this
section
variable (k wt : Nat) (AL : Option Addr) (nL cL : Nat) (AR : Option Addr) (nR cR : Nat) (AM : Option Addr) (nM cM : Nat) (L : List OneV) (now player tick : Int) (x y z : Int) (w : World)
set_option maxHeartbeats 2000000 in
theorem refoffer_bad (rd : Rd w w.heap.size 5 AL nL (onesC L)) (hnL : nL ≤ 100000) (hn : -1000000 ≤ now ∧ now ≤ 1000000) (he : ¬ refE k nR L now player tick (x, y, z) = 0) :
    Calls Try.prog 15 #[.agg #[.int .i64 k, .int .i64 wt, .slice AL nL cL, .slice AR nR cR, .slice AM nM cM], .int .i64 now, .int .i64 player, .int .i64 tick, .agg #[.int .i64 x, .int .i64 y, .int .i64 z]] w fun e w' =>
      e = .returned (.tuple #[.agg #[.int .i64 k, .int .i64 wt, .slice AL nL cL, .slice AR nR cR, .slice AM nM cM], .int .i64 (refE k nR L now player tick (x, y, z))]) ∧ Below w.heap.size w w' := by
  have RD := Lib.hid rd
  obtain ⟨hn1, hn2⟩ := hn
  clear rd
  by_cases c1 : player < 0
  · have E1 : refE k nR L now player tick (x, y, z) = 17 := by unfold refE; rw [if_pos (.inl c1)]
    rw [E1]
    clear he E1
    go_enter Try.func15, Try.ntmps15
    go_wp2
    exact bodyPost_ret (v := .tuple #[.agg #[.int .i64 k, .int .i64 wt, .slice AL nL cL, .slice AR nR cR, .slice AM nM cM], .int .i64 17]) (by simp [results, Try.results15, go_sem]) rfl ⟨rfl, by (repeat (first | (with_reducible exact Below.refl _ _) | (with_reducible assumption) | (with_reducible refine b_drew ?_) | (with_reducible refine b_drewN ?_ _) | (with_reducible refine b_alloc ?_ _) | ((with_reducible refine b_set ?_ ?_ _); rotate_left; (focus (first | omega | (simp; done) | (simp; omega) | (simp at *; omega)))) | (with_reducible refine b_call ?_ (by with_reducible assumption))))⟩
  by_cases c2 : (k : Int) ≤ player
  · have E1 : refE k nR L now player tick (x, y, z) = 17 := by unfold refE; rw [if_pos (.inr c2)]
    rw [E1]
    have hd : decide (player < 0) = false := by simpa using c1
    clear he E1
    go_enter Try.func15, Try.ntmps15
    go_wp2
    exact bodyPost_ret (v := .tuple #[.agg #[.int .i64 k, .int .i64 wt, .slice AL nL cL, .slice AR nR cR, .slice AM nM cM], .int .i64 17]) (by simp [results, Try.results15, go_sem]) rfl ⟨rfl, by (repeat (first | (with_reducible exact Below.refl _ _) | (with_reducible assumption) | (with_reducible refine b_drew ?_) | (with_reducible refine b_drewN ?_ _) | (with_reducible refine b_alloc ?_ _) | ((with_reducible refine b_set ?_ ?_ _); rotate_left; (focus (first | omega | (simp; done) | (simp; omega) | (simp at *; omega)))) | (with_reducible refine b_call ?_ (by with_reducible assumption))))⟩
  have hd : decide (player < 0) = false := by simpa using c1
  have hd2 : decide ((k : Int) ≤ player) = false := by simpa using c2
  by_cases c3 : Val (x, y, z)
  · have hv := vcode_yes c3
    by_cases c4 : tick < 0 ∨ 6000 ≤ tick ∨ now + 8 < tick
    · have E1 : refE k nR L now player tick (x, y, z) = 18 := by unfold refE; rw [if_neg (by omega), if_neg (by simpa using c3), if_pos c4]
      rw [E1]
      have key : ∀ (q1 q2 q3 : Bool), decide (tick < 0) = q1 → decide (6000 ≤ tick) = q2 → decide (now + 8 < tick) = q3 → (q1 || (q2 || q3)) = true → Calls Try.prog 15 #[.agg #[.int .i64 k, .int .i64 wt, .slice AL nL cL, .slice AR nR cR, .slice AM nM cM], .int .i64 now, .int .i64 player, .int .i64 tick, .agg #[.int .i64 x, .int .i64 y, .int .i64 z]] w fun e w' =>
          e = .returned (.tuple #[.agg #[.int .i64 k, .int .i64 wt, .slice AL nL cL, .slice AR nR cR, .slice AM nM cM], .int .i64 18]) ∧ Below w.heap.size w w' := by
        intro q1 q2 q3 e1 e2 e3 e4
        clear he E1 c1 c2 c3 c4
        rcases q1 with _ | _ <;> rcases q2 with _ | _ <;> rcases q3 with _ | _
        all_goals first
          | exact absurd e4 (by decide)
          | (clear e4
             go_enter Try.func15, Try.ntmps15
             go_wp2_with fail
             refine (refvalidate3 _ _ _ _).mono ?_
             rintro e w2 ⟨rfl, hb2⟩
             obtain ⟨bc2, bf2⟩ := bcell hb2
             have VV := (vr_new3 w _ _ 30 _).call hb2
             have hz2 := hb2.size
             go_wp2
             refine name_post ?_
             intro Z hZ
             obtain ⟨z1, z2, z3⟩ := (show Vr Z (w.heap.size + 1 + 1) 30 #[.int .i64 k, .int .i64 wt, .slice AL nL cL, .slice AR nR cR, .slice AM nM cM] from by rw [hZ]; exact vr_set5 VV _ _ _ _ _).facts
             have hBZ : Below w.heap.size w Z := by rw [hZ]; (repeat (first | (with_reducible exact Below.refl _ _) | (with_reducible assumption) | (with_reducible refine b_drew ?_) | (with_reducible refine b_drewN ?_ _) | (with_reducible refine b_alloc ?_ _) | ((with_reducible refine b_set ?_ ?_ _); rotate_left; (focus (first | omega | (simp; done) | (simp; omega) | (simp at *; omega)))) | (with_reducible refine b_call ?_ (by with_reducible assumption))))
             clear hZ
             exact bodyPost_ret (v := .tuple #[.agg #[.int .i64 k, .int .i64 wt, .slice AL nL cL, .slice AR nR cR, .slice AM nM cM], .int .i64 18]) (by simp [results, Try.results15, go_sem, z2]) rfl ⟨rfl, hBZ⟩)
      refine key _ _ _ rfl rfl rfl ?_
      rcases c4 with h | h | h <;> simp [h]
    · have d1 : decide (tick < 0) = false := by simp; omega
      have d2 : decide (6000 ≤ tick) = false := by simp; omega
      have d3 : decide (now + 8 < tick) = false := by simp; omega
      have b1 : 0 ≤ tick := by omega
      have b2 : tick < 6000 := by omega
      by_cases c5 : tick < (nR : Int)
      · have E1 : refE k nR L now player tick (x, y, z) = 20 := by unfold refE; rw [if_neg (by omega), if_neg (by simpa using c3), if_neg c4, if_pos c5]
        rw [E1]
        have d4 : decide (tick < (nR : Int)) = true := by simpa using c5
        clear he E1 c1 c2 c3 c4 c5
        go_enter Try.func15, Try.ntmps15
        go_wp2_with fail
        refine (refvalidate3 _ _ _ _).mono ?_
        rintro e w2 ⟨rfl, hb2⟩
        obtain ⟨bc2, bf2⟩ := bcell hb2
        have VV := (vr_new3 w _ _ 30 _).call hb2
        have hz2 := hb2.size
        go_wp2
        refine name_post ?_
        intro Z hZ
        obtain ⟨z1, z2, z3⟩ := (show Vr Z (w.heap.size + 1 + 1) 30 #[.int .i64 k, .int .i64 wt, .slice AL nL cL, .slice AR nR cR, .slice AM nM cM] from by rw [hZ]; exact vr_set5 VV _ _ _ _ _).facts
        have hBZ : Below w.heap.size w Z := by rw [hZ]; (repeat (first | (with_reducible exact Below.refl _ _) | (with_reducible assumption) | (with_reducible refine b_drew ?_) | (with_reducible refine b_drewN ?_ _) | (with_reducible refine b_alloc ?_ _) | ((with_reducible refine b_set ?_ ?_ _); rotate_left; (focus (first | omega | (simp; done) | (simp; omega) | (simp at *; omega)))) | (with_reducible refine b_call ?_ (by with_reducible assumption))))
        clear hZ
        exact bodyPost_ret (v := .tuple #[.agg #[.int .i64 k, .int .i64 wt, .slice AL nL cL, .slice AR nR cR, .slice AM nM cM], .int .i64 20]) (by simp [results, Try.results15, go_sem, z2]) rfl ⟨rfl, hBZ⟩
      · have d4 : decide (tick < (nR : Int)) = false := by simpa using c5
        have c6 : 0 ≤ findI L player tick := by
          unfold refE at he
          rw [if_neg (by omega), if_neg (by simpa using c3), if_neg c4, if_neg c5] at he
          by_cases h : 0 ≤ findI L player tick
          · exact h
          · rw [if_neg h] at he
            exact absurd rfl he
        have E1 : refE k nR L now player tick (x, y, z) = 4 := by unfold refE; rw [if_neg (by omega), if_neg (by simpa using c3), if_neg c4, if_neg c5, if_pos c6]
        rw [E1]
        clear he E1 c1 c2 c3 c4 c5
        go_enter Try.func15, Try.ntmps15
        go_wp2_with fail
        refine (refvalidate3 _ _ _ _).mono ?_
        rintro e w2 ⟨rfl, hb2⟩
        obtain ⟨bc2, bf2⟩ := bcell hb2
        have VV := (vr_new3 w _ _ 30 _).call hb2
        have hz2 := hb2.size
        go_wp2_with fail
        refine (find_any (k : Int) (wt : Int) AL nL cL _ _ L player tick _ (rd_step RD.out (by (repeat (first | (with_reducible exact Below.refl _ _) | (with_reducible assumption) | (with_reducible refine b_drew ?_) | (with_reducible refine b_drewN ?_ _) | (with_reducible refine b_alloc ?_ _) | ((with_reducible refine b_set ?_ ?_ _); rotate_left; (focus (first | omega | (simp; done) | (simp; omega) | (simp at *; omega)))) | (with_reducible refine b_call ?_ (by with_reducible assumption)))))) hnL rfl rfl).mono ?_
        rintro e w3 ⟨rfl, hb3⟩
        obtain ⟨bc3, bf3⟩ := bcell hb3
        have VV := VV.call hb3
        obtain ⟨y1, y2, y3⟩ := (((((Vr.new w 30 #[.int .i64 k, .int .i64 wt, .slice AL nL cL, .slice AR nR cR, .slice AM nM cM]).alloc _).alloc _).call hb2).call hb3).facts
        obtain ⟨y4, y5, y6⟩ := VV.facts
        have hz3 := hb3.size
        go_wp2
        refine name_post ?_
        intro Z hZ
        obtain ⟨z1, z2, z3⟩ := (show Vr Z (w.heap.size + 1 + 1) 30 #[.int .i64 k, .int .i64 wt, .slice AL nL cL, .slice AR nR cR, .slice AM nM cM] from by rw [hZ]; exact vr_set5 VV _ _ _ _ _).facts
        have hBZ : Below w.heap.size w Z := by rw [hZ]; (repeat (first | (with_reducible exact Below.refl _ _) | (with_reducible assumption) | (with_reducible refine b_drew ?_) | (with_reducible refine b_drewN ?_ _) | (with_reducible refine b_alloc ?_ _) | ((with_reducible refine b_set ?_ ?_ _); rotate_left; (focus (first | omega | (simp; done) | (simp; omega) | (simp at *; omega)))) | (with_reducible refine b_call ?_ (by with_reducible assumption))))
        clear hZ
        exact bodyPost_ret (v := .tuple #[.agg #[.int .i64 k, .int .i64 wt, .slice AL nL cL, .slice AR nR cR, .slice AM nM cM], .int .i64 4]) (by simp [results, Try.results15, go_sem, z2]) rfl ⟨rfl, hBZ⟩
  · have hv := vcode_no c3
    have E1 : refE k nR L now player tick (x, y, z) = 1 := by unfold refE; rw [if_neg (by omega), if_pos c3]
    rw [E1]
    clear he E1 c1 c2 c3
    go_enter Try.func15, Try.ntmps15
    go_wp2_with fail
    refine (refvalidate3 _ _ _ _).mono ?_
    rintro e w2 ⟨rfl, hb2⟩
    obtain ⟨bc2, bf2⟩ := bcell hb2
    have VV := (vr_new3 w _ _ 30 _).call hb2
    have hz2 := hb2.size
    go_wp2
    refine name_post ?_
    intro Z hZ
    obtain ⟨z1, z2, z3⟩ := (show Vr Z (w.heap.size + 1 + 1) 30 #[.int .i64 k, .int .i64 wt, .slice AL nL cL, .slice AR nR cR, .slice AM nM cM] from by rw [hZ]; exact vr_set5 VV _ _ _ _ _).facts
    have hBZ : Below w.heap.size w Z := by rw [hZ]; (repeat (first | (with_reducible exact Below.refl _ _) | (with_reducible assumption) | (with_reducible refine b_drew ?_) | (with_reducible refine b_drewN ?_ _) | (with_reducible refine b_alloc ?_ _) | ((with_reducible refine b_set ?_ ?_ _); rotate_left; (focus (first | omega | (simp; done) | (simp; omega) | (simp at *; omega)))) | (with_reducible refine b_call ?_ (by with_reducible assumption))))
    clear hZ
    exact bodyPost_ret (v := .tuple #[.agg #[.int .i64 k, .int .i64 wt, .slice AL nL cL, .slice AR nR cR, .slice AM nM cM], .int .i64 1]) (by simp [results, Try.results15, go_sem, z2]) rfl ⟨rfl, hBZ⟩
end
end Go.Proofs.Ytdjmaljldajpiaa
