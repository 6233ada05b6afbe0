/-
  WHAT IS PROVED HERE: the contracts of package commitreveal's Commitment and of its reference. No condition but that the input is valid.
-/
import Derived.Test.YtojmkfhinkmhaaaInE
import Derived.Test.YtojmkfhinkmhaaaHsR
namespace Go.Proofs.Ytojmkfhinkmhaaa
set_option linter.unusedVariables false
open Go.ChangeShapes Go.WideShapes Go.ChangeAt Go.RowKit

abbrev cmTxt : ByteArray := ⟨#[99, 111, 109, 109, 105, 116]⟩
/-- The commitment. -/
def cmtI (p t : Int) (x : Inp) (n : Int) : Int := sumI (txt cmTxt) [p, t, code x, n / 2, n % 2]
set_option maxHeartbeats 1000000 in
theorem cmt_any (p t a b c n : Int) (w : World) (hv : Val (a, b, c)) (hn : 0 ≤ n ∧ n ≤ 18446744073709551615) :
    Calls Try.prog 11 #[.int .i64 p, .int .i64 t, .agg #[.int .i64 a, .int .i64 b, .int .i64 c], .int .u64 n] w fun e w' => e = .returned (.int .u64 (cmtI p t (a, b, c) n)) ∧ Below w.heap.size w w' := by
  have hcd := code_bd hv
  obtain ⟨hn1, hn2⟩ := hn
  have hand : bits .and .u64 n 1 = n % 2 := by
    rw [u64_and n 1 hn1 (by omega) (by omega) (by omega), show ((1 : Int)).toNat = 1 from rfl, Nat.and_one_is_mod]
    omega
  go_enter Try.func11, Try.ntmps11
  go_wp2_with fail
  refine (encode3 a b c _ hv).mono ?_
  rintro e w1 ⟨rfl, hb1⟩
  go_wp2_with fail
  refine (sum_any cmTxt (by decide) _ 5 5 [p, t, code (a, b, c), n / 2, n % 2] _ (rd_lit w1 _ _ rfl rfl) (by omega)).mono ?_
  rintro e w2 ⟨rfl, hb2⟩
  go_wp2
  go_ret
  exact ⟨rfl, by (repeat (first | (with_reducible exact Below.refl _ _) | (with_reducible assumption) | (with_reducible refine b_drew ?_) | (with_reducible refine b_drewN ?_ _) | (with_reducible refine b_alloc ?_ _) | ((with_reducible refine b_set ?_ ?_ _); rotate_left; (focus (first | omega | (simp; done) | (simp; omega) | (simp at *; omega)))) | (with_reducible refine b_call ?_ (by with_reducible assumption))))⟩
set_option maxHeartbeats 1000000 in
theorem refcmt_any (p t a b c n : Int) (w : World) (hv : Val (a, b, c)) (hn : 0 ≤ n ∧ n ≤ 18446744073709551615) :
    Calls Try.prog 12 #[.int .i64 p, .int .i64 t, .agg #[.int .i64 a, .int .i64 b, .int .i64 c], .int .u64 n] w fun e w' => e = .returned (.int .u64 (cmtI p t (a, b, c) n)) ∧ Below w.heap.size w w' := by
  have hcd := code_bd hv
  obtain ⟨hn1, hn2⟩ := hn
  go_enter Try.func12, Try.ntmps12
  go_wp2_with fail
  refine (refencode3 a b c _ hv).mono ?_
  rintro e w1 ⟨rfl, hb1⟩
  go_wp2_with fail
  refine (refsum_any cmTxt (by decide) _ 5 5 [p, t, code (a, b, c), n / 2, n % 2] _ (rd_lit w1 _ _ rfl rfl) (by omega)).mono ?_
  rintro e w2 ⟨rfl, hb2⟩
  go_wp2
  go_ret
  exact ⟨rfl, by (repeat (first | (with_reducible exact Below.refl _ _) | (with_reducible assumption) | (with_reducible refine b_drew ?_) | (with_reducible refine b_drewN ?_ _) | (with_reducible refine b_alloc ?_ _) | ((with_reducible refine b_set ?_ ?_ _); rotate_left; (focus (first | omega | (simp; done) | (simp; omega) | (simp at *; omega)))) | (with_reducible refine b_call ?_ (by with_reducible assumption))))⟩
end Go.Proofs.Ytojmkfhinkmhaaa
