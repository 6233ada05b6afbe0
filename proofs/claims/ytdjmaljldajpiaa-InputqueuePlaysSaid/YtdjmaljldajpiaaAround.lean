/-
  WHAT IS PROVED HERE: the contract of the references' helper Around. No condition beyond what the theorem states.
-/
import Derived.Test.YtdjmaljldajpiaaBase
namespace Go.Proofs.Ytdjmaljldajpiaa
set_option linter.unusedVariables false
open Go.ChangeShapes Go.WideShapes Go.ChangeAt Go.RowKit

@[irreducible] def around (n m : Int) : Int := (if n < 0 then -(n+1) else n) % m
theorem around_bd (n m : Int) (hm : 1 ≤ m) : 0 ≤ around n m ∧ around n m < m := by
  unfold around
  exact ⟨Int.emod_nonneg _ (by omega), Int.emod_lt_of_pos _ (by omega)⟩

set_option maxHeartbeats 400000 in
theorem around_any (n m : Int) (w : World) (h1 : -9223372036854775808 ≤ n) (h2 : n ≤ 9223372036854775807) (hm : 1 ≤ m) (hm2 : m ≤ 9223372036854775807) :
    Calls Try.prog 10 #[.int .i64 n, .int .i64 m] w fun e w' => e = .returned (.int .i64 (around n m)) ∧ w = w' := by
  go_enter Try.func10, Try.ntmps10
  go_wp2
  · go_ret
    exact ⟨ret_int (by unfold around; rw [if_pos (by assumption)]; rw [← Int.neg_tmod]; exact Int.tmod_eq_emod_of_nonneg (by omega)), rfl⟩
  · go_ret
    exact ⟨ret_int (by unfold around; rw [if_neg (by omega)]), rfl⟩

end Go.Proofs.Ytdjmaljldajpiaa
