/-
  WHAT IS PROVED HERE: what it means that a new slice comes back; two slices of numbers that agree up to k. No condition but bounds that every machine's lengths meet.
-/
import Derived.Test.YtdjmaljldajpiaaApp
import Derived.Test.YtdjmaljldajpiaaAround
namespace Go.Proofs.Ytdjmaljldajpiaa
set_option linter.unusedVariables false
open Go.ChangeShapes Go.WideShapes Go.ChangeAt Go.RowKit

/-- A new slice comes back, and old memory is as it was. -/
def RetSl (w : World) (E : TypeId) (sz N : Nat) (xs : List Value) (e : Ending) (w' : World) : Prop :=
  ∃ A c, e = .returned (.slice A N c) ∧ N ≤ c ∧ c ≤ maxLen ∧ w'.ownsRow w.heap.size E sz (.slice A N c) N xs ∧ Below w.heap.size w w'

theorem take_eq_succ {l l' : List Int} {k : Nat} (h : l.take k = l'.take k) (h1 : k < l.length) (h2 : k < l'.length) (he : l[k] = l'[k]) : l.take (k + 1) = l'.take (k + 1) := by
  rw [List.take_succ_eq_append_getElem h1, List.take_succ_eq_append_getElem h2, h, he]
end Go.Proofs.Ytdjmaljldajpiaa
