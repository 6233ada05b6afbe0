/-
  WHAT IS PROVED HERE: contracts of package input's Encode and of its reference. No condition but that the input is valid.
-/
import Derived.Test.YtojmkfhinkmhaaaInQ
namespace Go.Proofs.Ytojmkfhinkmhaaa
set_option linter.unusedVariables false
open Go.ChangeShapes Go.WideShapes Go.ChangeAt Go.RowKit

/-! ### Encode -/
set_option maxHeartbeats 400000 in
theorem encode_any (x : Inp) (w : World) (h : Val x) :
    Calls Try.prog 35 #[inp x] w fun e w' => e = .returned (.int .u8 (code x)) ∧ Below w.heap.size w w' := by
  obtain ⟨x, y, a⟩ := x
  unfold Val at h
  simp only at h
  obtain ⟨⟨a1, a2⟩, ⟨a3, a4⟩, a5, a6⟩ := h
  go_enter Try.func35, Try.ntmps35
  go_wp2
  go_ret
  exact ⟨ret_int (by unfold code; rfl), by (repeat (first | (with_reducible exact Below.refl _ _) | (with_reducible assumption) | (with_reducible refine b_drew ?_) | (with_reducible refine b_drewN ?_ _) | (with_reducible refine b_alloc ?_ _) | ((with_reducible refine b_set ?_ ?_ _); rotate_left; (focus (first | omega | (simp; done) | (simp; omega) | (simp at *; omega)))) | (with_reducible refine b_call ?_ (by with_reducible assumption))))⟩
set_option maxHeartbeats 400000 in
theorem refencode_any (x : Inp) (w : World) (h : Val x) :
    Calls Try.prog 37 #[inp x] w fun e w' => e = .returned (.int .u8 (code x)) ∧ Below w.heap.size w w' := by
  obtain ⟨x, y, a⟩ := x
  unfold Val at h
  simp only at h
  obtain ⟨⟨a1, a2⟩, ⟨a3, a4⟩, a5, a6⟩ := h
  go_enter Try.func37, Try.ntmps37
  go_wp2
  go_ret
  exact ⟨ret_int (by unfold code; rfl), by (repeat (first | (with_reducible exact Below.refl _ _) | (with_reducible assumption) | (with_reducible refine b_drew ?_) | (with_reducible refine b_drewN ?_ _) | (with_reducible refine b_alloc ?_ _) | ((with_reducible refine b_set ?_ ?_ _); rotate_left; (focus (first | omega | (simp; done) | (simp; omega) | (simp at *; omega)))) | (with_reducible refine b_call ?_ (by with_reducible assumption))))⟩

theorem encode3 (a b c : Int) (w : World) (h : Val (a, b, c)) :
    Calls Try.prog 35 #[.agg #[.int .i64 a, .int .i64 b, .int .i64 c]] w fun e w' => e = .returned (.int .u8 (code (a, b, c))) ∧ Below w.heap.size w w' := encode_any (a, b, c) w h
theorem refencode3 (a b c : Int) (w : World) (h : Val (a, b, c)) :
    Calls Try.prog 37 #[.agg #[.int .i64 a, .int .i64 b, .int .i64 c]] w fun e w' => e = .returned (.int .u8 (code (a, b, c))) ∧ Below w.heap.size w w' := refencode_any (a, b, c) w h
end Go.Proofs.Ytojmkfhinkmhaaa
