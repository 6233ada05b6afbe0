/-
  WHAT IS PROVED HERE: a quotient by three stays an int. No condition.
-/
import Derived.Test.YtgelhcgaacnjcaaMlA
namespace Go.Proofs.Ytgelhcgaacnjcaa
theorem tdiv3 {x : Int} (h : I64 x) : I64 (x.tdiv 3) := by
  unfold I64 at h ⊢
  rcases Int.le_total 0 x with h1 | h1
  · rw [Int.tdiv_eq_ediv_of_nonneg h1]
    omega
  · have h2 := Int.neg_tdiv x 3
    rw [Int.tdiv_eq_ediv_of_nonneg (by omega)] at h2
    omega
end Go.Proofs.Ytgelhcgaacnjcaa
