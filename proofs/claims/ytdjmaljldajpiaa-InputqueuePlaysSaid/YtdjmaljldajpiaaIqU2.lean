/-
  WHAT IS PROVED HERE: the contract of the reference's Offer where the input is accepted. No condition but that the queue lies in memory as stated.
-/
import Derived.Test.YtdjmaljldajpiaaIqU
namespace Go.Proofs.Ytdjmaljldajpiaa
set_option linter.unusedVariables false
open Go.ChangeShapes Go.WideShapes Go.ChangeAt Go.RowKit

/-- The new queue comes back. -/
def RetOff (w : World) (k wt nL : Nat) (AR : Option Addr) (nR cR : Nat) (AM : Option Addr) (nM cM : Nat) (L : List OneV) (e : Ending) (w' : World) : Prop :=
  ∃ A c, e = .returned (.tuple #[.agg #[.int .i64 k, .int .i64 wt, .slice A nL c, .slice AR nR cR, .slice AM nM cM], .int .i64 0]) ∧ Rd w' w'.heap.size 5 A nL (onesC L) ∧ Below w.heap.size w w' ∧ ∀ a, A = some a → w.heap.size ≤ a.block
theorem oq_set {g : Nat} {a w : World} (h : Only (· = g) a w) (i : Nat) (u : Value) : Only (· = g) a (w.setCell ⟨g, i, none⟩ u) := h.setCell (p := ⟨g, i, none⟩) (.inl rfl) u
theorem own_only {w w' : World} {base g : Nat} {e : TypeId} {sz n : Nat} {v : Value} {xs : List Value} (h : w.ownsRow base e sz v n xs) (hO : Only (· = g) w w') (hg : v.ownBlock ≠ some g) : w'.ownsRow base e sz v n xs := by
  refine ⟨h.1, ?_⟩
  rcases h.2 with h2 | ⟨b, cap, cur, rfl, hb, hh, hr⟩
  · exact .inl h2
  · refine .inr ⟨b, cap, cur, rfl, hb, ?_, hr⟩
    rw [hO.heap ?_ ?_]
    · exact hh
    · rcases Nat.lt_or_ge b w.heap.size with h1 | h1
      · exact h1
      · rw [Array.getElem?_eq_none h1] at hh; cases hh
    · intro hbg
      exact hg (congrArg some hbg)
section
variable (k wt : Nat) (AL : Option Addr) (nL cL : Nat) (AR : Option Addr) (nR cR : Nat) (AM : Option Addr) (nM cM : Nat) (L : List OneV) (now player tick : Int) (x y z : Int) (w : World)
set_option maxRecDepth 100000 in
set_option maxHeartbeats 2000000 in
theorem refoffer_ok (rd : Rd w w.heap.size 5 AL nL (onesC L)) (hnL : nL ≤ 100000) (hn : -1000000 ≤ now ∧ now ≤ 1000000) (he : refE k nR L now player tick (x, y, z) = 0) :
    Calls Try.prog 15 #[.agg #[.int .i64 k, .int .i64 wt, .slice AL nL cL, .slice AR nR cR, .slice AM nM cM], .int .i64 now, .int .i64 player, .int .i64 tick, .agg #[.int .i64 x, .int .i64 y, .int .i64 z]] w (RetOff w k wt (nL + 1) AR nR cR AM nM cM (L ++ [(player, tick, (x, y, z))])) := by
  have RD := Lib.hid rd
  obtain ⟨hn1, hn2⟩ := hn
  clear rd
  have facts : ¬ player < 0 ∧ ¬ (k : Int) ≤ player ∧ Val (x, y, z) ∧ ¬ (tick < 0 ∨ 6000 ≤ tick ∨ now + 8 < tick) ∧ ¬ tick < (nR : Int) ∧ ¬ 0 ≤ findI L player tick := by
    unfold refE at he
    by_cases c1 : player < 0 ∨ (k : Int) ≤ player
    · rw [if_pos c1] at he; cases he
    rw [if_neg c1] at he
    by_cases c2 : ¬ Val (x, y, z)
    · rw [if_pos c2] at he; cases he
    rw [if_neg c2] at he
    by_cases c3 : tick < 0 ∨ 6000 ≤ tick ∨ now + 8 < tick
    · rw [if_pos c3] at he; cases he
    rw [if_neg c3] at he
    by_cases c4 : tick < (nR : Int)
    · rw [if_pos c4] at he; cases he
    rw [if_neg c4] at he
    by_cases c5 : 0 ≤ findI L player tick
    · rw [if_pos c5] at he; cases he
    exact ⟨fun h => c1 (.inl h), fun h => c1 (.inr h), by simpa using c2, c3, c4, c5⟩
  obtain ⟨c1, c2, c3, c4, c5, c6⟩ := facts
  have hd : decide (player < 0) = false := by simpa using c1
  have hd2 : decide ((k : Int) ≤ player) = false := by simpa using c2
  have hv := vcode_yes c3
  have d1 : decide (tick < 0) = false := by simp; omega
  have d2 : decide (6000 ≤ tick) = false := by simp; omega
  have d3 : decide (now + 8 < tick) = false := by simp; omega
  have d4 : decide (tick < (nR : Int)) = false := by simpa using c5
  have d5 : decide (0 ≤ findI L player tick) = false := by simpa using c6
  clear he c1 c2 c3 c4 c5 c6
  go_enter Try.func15, Try.ntmps15
  go_wp2_with fail
  refine (refvalidate3 _ _ _ _).mono ?_
  rintro e w2 ⟨rfl, hb2⟩
  obtain ⟨bc2, bf2⟩ := bcell hb2
  have V0 := ((((Vr.new w 30 #[.int .i64 k, .int .i64 wt, .slice AL nL cL, .slice AR nR cR, .slice AM nM cM]).alloc _).alloc _).call hb2)
  have V1 := ((show Vr ((w.alloc (.cells #[.int .i64 k, .int .i64 wt, .slice AL nL cL, .slice AR nR cR, .slice AM nM cM] 30)).alloc (.cells #[.int .i64 x, .int .i64 y, .int .i64 z] 34)) (w.heap.size + 1) 34 #[.int .i64 x, .int .i64 y, .int .i64 z] from by simpa using Vr.new (w.alloc (.cells #[.int .i64 k, .int .i64 wt, .slice AL nL cL, .slice AR nR cR, .slice AM nM cM] 30)) _ _).alloc _).call hb2
  have V2 := (vr_new3 w _ _ 30 _).call hb2
  have hz2 := hb2.size
  go_wp2_with fail
  refine (find_any (k : Int) (wt : Int) AL nL cL _ _ L player tick _ (rd_step RD.out (by (repeat (first | (with_reducible exact Below.refl _ _) | (with_reducible assumption) | (with_reducible refine b_drew ?_) | (with_reducible refine b_drewN ?_ _) | (with_reducible refine b_alloc ?_ _) | ((with_reducible refine b_set ?_ ?_ _); rotate_left; (focus (first | omega | (simp; done) | (simp; omega) | (simp at *; omega)))) | (with_reducible refine b_call ?_ (by with_reducible assumption)))))) hnL rfl rfl).mono ?_
  rintro e w3 ⟨rfl, hb3⟩
  have V0 := Lib.hid (V0.call hb3)
  have V1 := Lib.hid (V1.call hb3)
  have V2 := Lib.hid (V2.call hb3)
  have HB3 : Below w.heap.size w w3 := by (repeat (first | (with_reducible exact Below.refl _ _) | (with_reducible assumption) | (with_reducible refine b_drew ?_) | (with_reducible refine b_drewN ?_ _) | (with_reducible refine b_alloc ?_ _) | ((with_reducible refine b_set ?_ ?_ _); rotate_left; (focus (first | omega | (simp; done) | (simp; omega) | (simp at *; omega)))) | (with_reducible refine b_call ?_ (by with_reducible assumption))))
  have RD3 := Lib.hid (rd_step RD.out HB3)
  have hl2 := V2.out.lt
  clear bc2 bf2 hz2 hb2 hb3 RD
  obtain ⟨q, hq⟩ : ∃ q, w.heap.size = q := ⟨_, rfl⟩
  have HQ0 := Lib.hid hq
  rw [hq] at V0 V1 V2 hl2 ⊢
  clear hq
  go_upto_region 12 with (fail)
  refine name_world ?_
  intro X hX
  obtain rfl : w3 = X := hX.symm
  go_cut [] from 53 to 64 (fun wx => ∃ (A' : Option Addr) (c' : Nat), Hid (wx.ownsRow w3.heap.size 66 5 (.slice A' (nL + 1) c') (nL + 1) (onesC (L ++ [(player, tick, (x, y, z))]))) ∧ Hid (Vr wx q 30 #[.int .i64 k, .int .i64 wt, .slice A' (nL + 1) c', .slice AR nR cR, .slice AM nM cM]) ∧ Hid (Only (· = q) w3 wx))
  case first =>
    refine Code.wp_mono OnlyN.then (off_region _ q (q + 1) k wt AL nL cL AR nR cR AM nM cM L player tick x y z w3 _ _ _ _ _ _ _ _ _ _ _ _ _ _ _ _ _ _ _ _ _ _ _ _ _ _ _ _ _ _ _ _ _ _ _ _ _ _ _ _ _ _ _ _ _ _ _ _ _ _ _ _ _ _ _ _ _ _ _ _ _ V0.out V1.out RD3.out hnL ?_)
    intro A' c' Z v53 v54 v55 v56 v57 v58 v59 v60 v61 v62 v63 g1 g2 g3
    have G1 := Lib.hid g1
    have G2 := Lib.hid g2
    have G3 := Lib.hid g3
    clear g1 g2 g3
    go_wp2
    go_meet
    case rel => exact ⟨A', c', G1, G2, G3⟩
  case rest =>
    obtain ⟨A', c', G1, G2, G3⟩ := hcut
    obtain ⟨Y, rfl⟩ : ∃ W : World, W = wc := ⟨_, rfl⟩
    have V2 := Lib.hid (V2.out.only G3.out (by omega))
    have y0 : Y.cell? ⟨q, 0, none⟩ = some (.int .i64 k) := G2.out.cell 0
    have y1 : Y.cell? ⟨q, 1, none⟩ = some (.int .i64 wt) := G2.out.cell 1
    have y2 : Y.cell? ⟨q, 2, none⟩ = some (.slice A' (nL + 1) c') := G2.out.cell 2
    have y3 : Y.cell? ⟨q, 3, none⟩ = some (.slice AR nR cR) := G2.out.cell 3
    have y4 : Y.cell? ⟨q, 4, none⟩ = some (.slice AM nM cM) := G2.out.cell 4
    obtain ⟨v1, v2, v3⟩ := V2.out.facts
    go_wp2
    refine name_post ?_
    intro Z hZ
    obtain ⟨z1, z2, z3⟩ := (show Vr Z (q + 1 + 1) 30 #[.int .i64 k, .int .i64 wt, .slice A' (nL + 1) c', .slice AR nR cR, .slice AM nM cM] from by rw [hZ]; exact vr_set5 V2.out _ _ _ _ _).facts
    have hz3 := HB3.size
    have hq0 := HQ0.out
    have hO : Only (· = q + 1 + 1) Y Z := by rw [hZ]; exact oq_set (oq_set (oq_set (oq_set (oq_set (Only.refl _ _) _ _) _ _) _ _) _ _) _ _
    have HBY : Below w.heap.size w Y := HB3.trans (G3.out.below hz3 (by rintro j rfl; omega))
    have HBZ : Below w.heap.size w Z := HBY.trans (hO.below HBY.size (by rintro j rfl; omega))
    have HOZ := Lib.hid (own_only G1.out hO (fun e => by have := (G1.out.lt _ e).1; omega))
    clear hZ hq0 hO y0 y1 y2 y3 y4 v1 v2 v3
    exact bodyPost_ret (v := .tuple #[.agg #[.int .i64 k, .int .i64 wt, .slice A' (nL + 1) c', .slice AR nR cR, .slice AM nM cM], .int .i64 0]) (by simp [results, Try.results15, go_sem, z2]) rfl ⟨A', c', rfl, rd_own HOZ.out, HBZ, fun a e => by have := (HOZ.out.lt a.block (by rw [e]; rfl)).1; omega⟩
end
end Go.Proofs.Ytdjmaljldajpiaa
