/-
  WHAT IS PROVED HERE: contracts of the hash's mixing step and of its reference's, and of small helpers. No condition beyond what each theorem states.
-/
import Derived.Test.YtgelhcgaacnjcaaBase
import Derived.Test.YtgelhcgaacnjcaaHashP
namespace Go.Proofs.Ytgelhcgaacnjcaa
set_option linter.unusedVariables false
open Go.ChangeShapes Go.WideShapes Go.ChangeAt Go.RowKit

set_option maxHeartbeats 400000 in
theorem mix_any (s x : Int) (w : World) (hs : U64 s) (hx : U64 x) :
    Calls Try.prog 53 #[.int .u64 s, .int .u64 x] w fun e w' => e = .returned (.int .u64 (mixI s x)) ∧ w = w' := by
  go_enter Try.func53, Try.ntmps53
  go_wp2
  go_ret
  exact ⟨ret_int (mix_eq hs hx), rfl⟩
set_option maxHeartbeats 400000 in
theorem refmix_any (s x : Int) (w : World) (hs : U64 s) (hx : U64 x) :
    Calls Try.prog 51 #[.int .u64 s, .int .u64 x] w fun e w' => e = .returned (.int .u64 (mixI s x)) ∧ w = w' := by
  go_enter Try.func51, Try.ntmps51
  go_wp2
  go_ret
  exact ⟨ret_int (refmix_eq hs hx), rfl⟩
end Go.Proofs.Ytgelhcgaacnjcaa
