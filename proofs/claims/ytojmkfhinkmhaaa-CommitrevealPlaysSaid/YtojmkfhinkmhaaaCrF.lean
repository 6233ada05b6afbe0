/-
  WHAT IS PROVED HERE: the checks of package commitreveal's Reveal. No condition but that the round lies in memory as stated.
-/
import Derived.Test.YtojmkfhinkmhaaaCrD
import Derived.Test.YtojmkfhinkmhaaaCrE
namespace Go.Proofs.Ytojmkfhinkmhaaa
set_option linter.unusedVariables false
open Go.ChangeShapes Go.WideShapes Go.ChangeAt Go.RowKit

set_option maxHeartbeats 400000 in
theorem rv1_any (b3 p : Nat) (r : RdV) (w : World) (h3 : w.cell? ⟨b3, 0, none⟩ = some (.pointer (some ⟨p, 0, none⟩))) (h : Cr w p r) :
    Calls Try.prog 43 #[.pointer (some ⟨b3, 0, none⟩)] w fun e w' => e = .returned (.bool (!r.o)) ∧ Below w.heap.size w w' := by
  obtain ⟨_, _, x2, _, _⟩ := h.facts
  clear h
  go_enter Try.func43, Try.ntmps43
  go_wp2
  go_ret
  exact ⟨rfl, Below.refl _ _⟩
set_option maxHeartbeats 400000 in
theorem rv2_any (b3 b4 p q : Nat) (r : RdV) (w : World) (h3 : w.cell? ⟨b3, 0, none⟩ = some (.pointer (some ⟨p, 0, none⟩))) (h4 : w.cell? ⟨b4, 0, none⟩ = some (.int .i64 q)) (h : Cr w p r) (hq : q < 8) :
    Calls Try.prog 44 #[.pointer (some ⟨b3, 0, none⟩), .pointer (some ⟨b4, 0, none⟩)] w fun e w' => e = .returned (.bool (!(r.st q).c)) ∧ Below w.heap.size w w' := by
  obtain ⟨x0, x1, x2⟩ := h.st hq
  have b1 : (0 : Int) ≤ (q : Int) := by omega
  have b2 : (q : Int) < 8 := by omega
  clear h
  go_enter Try.func44, Try.ntmps44
  go_wp2
  go_quiet (fail)
  go_wp2
  go_ret
  exact ⟨rfl, below_drewN (Below.refl _ _) _⟩
set_option maxHeartbeats 400000 in
theorem rv3_any (b3 b4 p q : Nat) (r : RdV) (w : World) (h3 : w.cell? ⟨b3, 0, none⟩ = some (.pointer (some ⟨p, 0, none⟩))) (h4 : w.cell? ⟨b4, 0, none⟩ = some (.int .i64 q)) (h : Cr w p r) (hq : q < 8) :
    Calls Try.prog 45 #[.pointer (some ⟨b3, 0, none⟩), .pointer (some ⟨b4, 0, none⟩)] w fun e w' => e = .returned (.bool (r.st q).r) ∧ Below w.heap.size w w' := by
  obtain ⟨x0, x1, x2⟩ := h.st hq
  have b1 : (0 : Int) ≤ (q : Int) := by omega
  have b2 : (q : Int) < 8 := by omega
  clear h
  go_enter Try.func45, Try.ntmps45
  go_wp2
  go_quiet (fail)
  go_wp2
  go_ret
  exact ⟨rfl, below_drewN (Below.refl _ _) _⟩
set_option maxHeartbeats 400000 in
theorem rv4_any (b6 : Nat) (a b c : Int) (w : World) (h0 : w.cell? ⟨b6, 0, none⟩ = some (.int .i64 a)) (h1 : w.cell? ⟨b6, 1, none⟩ = some (.int .i64 b)) (h2 : w.cell? ⟨b6, 2, none⟩ = some (.int .i64 c)) :
    Calls Try.prog 46 #[.pointer (some ⟨b6, 0, none⟩)] w fun e w' => e = .returned (.int .i64 (vcode (a, b, c))) ∧ Below w.heap.size w w' := by
  go_enter Try.func46, Try.ntmps46
  go_wp2_with fail
  refine (validate3 a b c _).mono ?_
  rintro e w1 ⟨rfl, hb1⟩
  go_wp2
  go_ret
  exact ⟨rfl, by (repeat (first | (with_reducible exact Below.refl _ _) | (with_reducible assumption) | (with_reducible refine b_drew ?_) | (with_reducible refine b_drewN ?_ _) | (with_reducible refine b_alloc ?_ _) | ((with_reducible refine b_set ?_ ?_ _); rotate_left; (focus (first | omega | (simp; done) | (simp; omega) | (simp at *; omega)))) | (with_reducible refine b_call ?_ (by with_reducible assumption))))⟩
set_option maxHeartbeats 1000000 in
theorem rv5_any (b3 b4 b6 b7 p q : Nat) (a b c n : Int) (r : RdV) (w : World) (h3 : w.cell? ⟨b3, 0, none⟩ = some (.pointer (some ⟨p, 0, none⟩))) (h4 : w.cell? ⟨b4, 0, none⟩ = some (.int .i64 q))
    (h60 : w.cell? ⟨b6, 0, none⟩ = some (.int .i64 a)) (h61 : w.cell? ⟨b6, 1, none⟩ = some (.int .i64 b)) (h62 : w.cell? ⟨b6, 2, none⟩ = some (.int .i64 c)) (h7 : w.cell? ⟨b7, 0, none⟩ = some (.int .u64 n)) (h : Cr w p r) (hq : q < 8) (hv : Val (a, b, c)) (hn : 0 ≤ n ∧ n ≤ 18446744073709551615) :
    Calls Try.prog 47 #[.pointer (some ⟨b4, 0, none⟩), .pointer (some ⟨b3, 0, none⟩), .pointer (some ⟨b6, 0, none⟩), .pointer (some ⟨b7, 0, none⟩)] w fun e w' => e = .returned (.bool (cmtI q r.t (a, b, c) n != (r.st q).h)) ∧ Below w.heap.size w w' := by
  obtain ⟨x0, x1, x2⟩ := h.st hq
  obtain ⟨_, xt, _, hl, _⟩ := h.facts
  have b1 : (0 : Int) ≤ (q : Int) := by omega
  have b2 : (q : Int) < 8 := by omega
  have HV := Lib.hid hv
  have HN := Lib.hid hn
  obtain ⟨t, ht⟩ : ∃ t, r.t = t := ⟨_, rfl⟩
  obtain ⟨hh, hhe⟩ : ∃ x, (r.st q).h = x := ⟨_, rfl⟩
  rw [hhe] at x2 ⊢
  rw [ht] at xt ⊢
  clear h hv hn x0 x1 hhe ht
  have l3 := World.block_lt_of_cell? w _ h3
  have l4 := World.block_lt_of_cell? w _ h4
  have l6 := World.block_lt_of_cell? w _ h60
  have l7 := World.block_lt_of_cell? w _ h7
  simp only at l3 l4 l6 l7
  go_enter Try.func47, Try.ntmps47
  go_wp2
  refine name_world ?_
  intro X hX
  obtain rfl : w = X := hX.symm
  go_region_held3 (fun w' => (∀ b o, b < w.heap.size → w'.cell? ⟨b, o, none⟩ = w.cell? ⟨b, o, none⟩) ∧ Below w.heap.size w w') (first | exact still_call (by assumption) (by assumption) | exact still_drew0 _ | exact still_drew (by assumption) | exact still_alloc (by assumption) _ | exact still_of (by (repeat (first | (with_reducible exact Below.refl _ _) | (with_reducible assumption) | (with_reducible refine b_drew ?_) | (with_reducible refine b_drewN ?_ _) | (with_reducible refine b_alloc ?_ _) | ((with_reducible refine b_set ?_ ?_ _); rotate_left; (focus (first | omega | (simp; done) | (simp; omega) | (simp at *; omega)))) | (with_reducible refine b_call ?_ (by with_reducible assumption)))))) ((go_at_call 11; refine (cmt_any q t a b c n _ HV.out HN.out).mono ?_; rintro e w1 ⟨rfl, hb1⟩))
  all_goals
    go_wp2
    go_ret
    exact ⟨rfl, by (repeat (first | (with_reducible exact Below.refl _ _) | (with_reducible assumption) | (with_reducible refine b_drew ?_) | (with_reducible refine b_drewN ?_ _) | (with_reducible refine b_alloc ?_ _) | ((with_reducible refine b_set ?_ ?_ _); rotate_left; (focus (first | omega | (simp; done) | (simp; omega) | (simp at *; omega)))) | (with_reducible refine b_call ?_ (by with_reducible assumption))))⟩
end Go.Proofs.Ytojmkfhinkmhaaa
