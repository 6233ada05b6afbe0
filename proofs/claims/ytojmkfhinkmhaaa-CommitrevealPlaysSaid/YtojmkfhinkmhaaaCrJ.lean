/-
  WHAT IS PROVED HERE: the walk of the law CommitrevealCommits: it returns true at every input and leaves old memory as it was.
-/
import Derived.Test.YtojmkfhinkmhaaaCrI
namespace Go.Proofs.Ytojmkfhinkmhaaa
set_option linter.unusedVariables false
open Go.ChangeShapes Go.WideShapes Go.ChangeAt Go.RowKit

set_option maxRecDepth 100000 in
set_option maxHeartbeats 2000000 in
theorem commits_walk (p t n nc : Int) (w : World) (hp : -9223372036854775808 ≤ p ∧ p ≤ 9223372036854775807) (ht : -9223372036854775808 ≤ t ∧ t ≤ 9223372036854775807) (hn : -9223372036854775808 ≤ n ∧ n ≤ 9223372036854775807) (hc : 0 ≤ nc ∧ nc ≤ 18446744073709551615) :
    Calls Try.prog 3 #[.int .i64 p, .int .i64 t, .int .i64 n, .int .u64 nc] w fun e w' => e = .returned (.bool true) ∧ Below w.heap.size w w' := by
  obtain ⟨p1, p2⟩ := hp
  obtain ⟨t1, t2⟩ := ht
  obtain ⟨n1, n2⟩ := hn
  have HC := Lib.hid hc
  clear hc
  go_enter Try.func3, Try.ntmps3
  go_wp2_with fail
  refine (around_any p 8 _ p1 p2 (by omega) (by omega)).mono ?_
  rintro e w_ ⟨rfl, rfl⟩
  go_wp2_with fail
  refine (around_any t 6001 _ t1 t2 (by omega) (by omega)).mono ?_
  rintro e w_ ⟨rfl, rfl⟩
  go_wp2_with fail
  refine (of_any n _ n1 n2).mono ?_
  rintro e w1 ⟨rfl, hb1⟩
  have HV := Lib.hid (inpOf_val n)
  obtain ⟨⟨a, b, c⟩, hx⟩ : ∃ x, inpOf n = x := ⟨_, rfl⟩
  rw [hx] at HV ⊢
  clear hx
  generalize around p 8 = P
  generalize around t 6001 = T
  clear p1 p2 t1 t2 n1 n2
  go_wp2
  refine name_world ?_
  intro X hX
  have hBX : Below w.heap.size w X := by rw [hX]; (repeat (first | (with_reducible exact Below.refl _ _) | (with_reducible assumption) | (with_reducible refine b_drew ?_) | (with_reducible refine b_drewN ?_ _) | (with_reducible refine b_alloc ?_ _) | ((with_reducible refine b_set ?_ ?_ _); rotate_left; (focus (first | omega | (simp; done) | (simp; omega) | (simp at *; omega)))) | (with_reducible refine b_call ?_ (by with_reducible assumption))))
  have V := Lib.hid (show Vr X w1.heap.size 25 #[.int .i64 a, .int .i64 b, .int .i64 c] from by rw [hX]; exact Vr.new w1 _ _)
  obtain ⟨z, _, _⟩ := V.out.facts
  have y0 : X.cell? ⟨w1.heap.size, 0, none⟩ = some (.int .i64 a) := V.out.cell 0
  have y1 : X.cell? ⟨w1.heap.size, 1, none⟩ = some (.int .i64 b) := V.out.cell 1
  have y2 : X.cell? ⟨w1.heap.size, 2, none⟩ = some (.int .i64 c) := V.out.cell 2
  clear hX hb1
  go_region_held3 (fun w' => (∀ b o, b < X.heap.size → w'.cell? ⟨b, o, none⟩ = X.cell? ⟨b, o, none⟩) ∧ Below X.heap.size X w') (first | exact still_call (by assumption) (by assumption) | exact still_drew0 _ | exact still_drew (by assumption) | exact still_alloc (by assumption) _ | exact still_of (by (repeat (first | (with_reducible exact Below.refl _ _) | (with_reducible assumption) | (with_reducible refine b_drew ?_) | (with_reducible refine b_drewN ?_ _) | (with_reducible refine b_alloc ?_ _) | ((with_reducible refine b_set ?_ ?_ _); rotate_left; (focus (first | omega | (simp; done) | (simp; omega) | (simp at *; omega)))) | (with_reducible refine b_call ?_ (by with_reducible assumption)))))) (first | (go_at_call 11; refine (cmt_any P T a b c nc _ HV.out HC.out).mono ?_; rintro e w2 ⟨rfl, hb2⟩) | (go_at_call 12; refine (refcmt_any P T a b c nc _ HV.out HC.out).mono ?_; rintro e w3 ⟨rfl, hb3⟩) | (go_at_call 13; refine (lives_any _).mono ?_; rintro e w4 ⟨rfl, hb4⟩))
  all_goals
    go_wp2
    go_ret
    exact ⟨rfl, by (repeat (first | (with_reducible exact Below.refl _ _) | (with_reducible assumption) | (with_reducible refine b_drew ?_) | (with_reducible refine b_drewN ?_ _) | (with_reducible refine b_alloc ?_ _) | ((with_reducible refine b_set ?_ ?_ _); rotate_left; (focus (first | omega | (simp; done) | (simp; omega) | (simp at *; omega)))) | (with_reducible refine b_call ?_ (by with_reducible assumption))))⟩
end Go.Proofs.Ytojmkfhinkmhaaa
