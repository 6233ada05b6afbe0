/-
  NARROWER THAN 'FOR EVERY INPUT', by the rows' own cells (each row's printed sentence says how): InputCodes: laid · InputValidates: laid · InputBijection: laid · InputPredicts: laid · InputRows: laid · InputRound: laid · InputOwn: laid.
  DERIVED. THE GIVEN ROWS OF THIS SEAT. 7 by the template 'for every input the law returns true; each argument reads behind the call as it read before'; 0 by the template 'total and deterministic' (their statements: YtlaeambhdpagdaaDoorTotals.lean).
  GIVEN WITH THE SEED: the statements are not yours to turn. If you find one false, say at which input.
  Laid BY PROGRAM, IN A SANDBOX (cutbox-rows.mjs): the forced cells as the released guide's own fill.sh prints them over the translation 8e104f5a5cf89a36… (all of the seat's roots in one cut). By AI agents, Wed Nov 11 2026. No macro, syntax, notation, axiom, sorry.
-/
import Derived.Test.YtlaeambhdpagdaaDoorChecked
import GoSem.Claim
import GoSem.ClaimJoined
import GoSem.ClaimMapViews
import Derived.JoinedTies
import Derived.KernelRfl
namespace Go.Proofs.YtlaeambhdpagdaaDoor
/- THE CELL 'sum', in the pinned program and in every row, IS THE sha256 OF THE DUMP (.gsa) THAT YtlaeambhdpagdaaDoorProg.lean LOADS. Nothing in Lean hashes anything: it is a label: what it is worth is what the hold of that sum in a sandbox is worth. -/
noncomputable def Tryd.pinned : Pinned := { name := "ytlaeambhdpagdaadoor", sum := "8e104f5a5cf89a36993e0eaf47ffcbef788e1a465c51d7c60156e08224b67749", checked := Tryd.checked }
namespace Rows
def none {H : Type} : Left H := { results := [], args := [] }

/- WHAT THE LISTED PACKAGE-LEVEL VARIABLES READ AS WHEN THE CALL BEGINS. Each datum BY PROGRAM (the guide's laid-datum.mjs) off the statement by which the dump's own 'gosem.cut.vars' lays the variable. In a bare row this is a premise. The card (YtlaeambhdpagdaaDoorCards.lean) ties it to the program's text. -/
def laid_arenanet_input_inputs {H : Type} : DataW H := .agg [.agg [.lit (.int .i64 (-1)), .lit (.int .i64 (-1)), .lit (.int .i64 0)], .agg [.lit (.int .i64 0), .lit (.int .i64 (-1)), .lit (.int .i64 0)], .agg [.lit (.int .i64 1), .lit (.int .i64 (-1)), .lit (.int .i64 0)], .agg [.lit (.int .i64 (-1)), .lit (.int .i64 0), .lit (.int .i64 0)], .agg [.lit (.int .i64 0), .lit (.int .i64 0), .lit (.int .i64 0)], .agg [.lit (.int .i64 1), .lit (.int .i64 0), .lit (.int .i64 0)], .agg [.lit (.int .i64 (-1)), .lit (.int .i64 1), .lit (.int .i64 0)], .agg [.lit (.int .i64 0), .lit (.int .i64 1), .lit (.int .i64 0)], .agg [.lit (.int .i64 1), .lit (.int .i64 1), .lit (.int .i64 0)], .agg [.lit (.int .i64 (-1)), .lit (.int .i64 (-1)), .lit (.int .i64 1)], .agg [.lit (.int .i64 0), .lit (.int .i64 (-1)), .lit (.int .i64 1)], .agg [.lit (.int .i64 1), .lit (.int .i64 (-1)), .lit (.int .i64 1)], .agg [.lit (.int .i64 (-1)), .lit (.int .i64 0), .lit (.int .i64 1)], .agg [.lit (.int .i64 0), .lit (.int .i64 0), .lit (.int .i64 1)], .agg [.lit (.int .i64 1), .lit (.int .i64 0), .lit (.int .i64 1)], .agg [.lit (.int .i64 (-1)), .lit (.int .i64 1), .lit (.int .i64 1)], .agg [.lit (.int .i64 0), .lit (.int .i64 1), .lit (.int .i64 1)], .agg [.lit (.int .i64 1), .lit (.int .i64 1), .lit (.int .i64 1)], .agg [.lit (.int .i64 (-1)), .lit (.int .i64 (-1)), .lit (.int .i64 2)], .agg [.lit (.int .i64 0), .lit (.int .i64 (-1)), .lit (.int .i64 2)], .agg [.lit (.int .i64 1), .lit (.int .i64 (-1)), .lit (.int .i64 2)], .agg [.lit (.int .i64 (-1)), .lit (.int .i64 0), .lit (.int .i64 2)], .agg [.lit (.int .i64 0), .lit (.int .i64 0), .lit (.int .i64 2)], .agg [.lit (.int .i64 1), .lit (.int .i64 0), .lit (.int .i64 2)], .agg [.lit (.int .i64 (-1)), .lit (.int .i64 1), .lit (.int .i64 2)], .agg [.lit (.int .i64 0), .lit (.int .i64 1), .lit (.int .i64 2)], .agg [.lit (.int .i64 1), .lit (.int .i64 1), .lit (.int .i64 2)], .agg [.lit (.int .i64 (-1)), .lit (.int .i64 (-1)), .lit (.int .i64 3)], .agg [.lit (.int .i64 0), .lit (.int .i64 (-1)), .lit (.int .i64 3)], .agg [.lit (.int .i64 1), .lit (.int .i64 (-1)), .lit (.int .i64 3)], .agg [.lit (.int .i64 (-1)), .lit (.int .i64 0), .lit (.int .i64 3)], .agg [.lit (.int .i64 0), .lit (.int .i64 0), .lit (.int .i64 3)], .agg [.lit (.int .i64 1), .lit (.int .i64 0), .lit (.int .i64 3)], .agg [.lit (.int .i64 (-1)), .lit (.int .i64 1), .lit (.int .i64 3)], .agg [.lit (.int .i64 0), .lit (.int .i64 1), .lit (.int .i64 3)], .agg [.lit (.int .i64 1), .lit (.int .i64 1), .lit (.int .i64 3)]]

/-- 'arenanetlaw21.InputCodes': WHATEVER THE INPUT: true; the input reads as it did. -/
def inputCodesSpec : ChangeSpec := { name := "inputCodes", fn := fun _ => fun
  | [d1, d2] => { results := [.lit (.bool true)], args := [d1, d2] }
  | _ => none }
def inputCodesRow : OpenClaim := { program := "ytlaeambhdpagdaadoor", sum := "8e104f5a5cf89a36993e0eaf47ffcbef788e1a465c51d7c60156e08224b67749", func := "arenanet/arenanetlaw21.InputCodes", spec := "inputCodes", named := ["arenanet/input.inputs"], apart := false, laid := [("arenanet/input.inputs", laid_arenanet_input_inputs)] }
def InputCodesSaid : Prop := inputCodesRow.holds Tryd.pinned (OpenSpec.ofChange inputCodesSpec)

/-- ITS FALSE NEIGHBOUR: 'it returns false'. Refute it at one input. -/
def inputCodesWrong : ChangeSpec := { name := "inputCodes", fn := fun _ => fun
  | [d1, d2] => { results := [.lit (.bool false)], args := [d1, d2] }
  | _ => none }
def InputCodesWrongFalsely : Prop := inputCodesRow.holds Tryd.pinned (OpenSpec.ofChange inputCodesWrong)

/-- 'arenanetlaw21.InputValidates': WHATEVER THE INPUT: true; the input reads as it did. -/
def inputValidatesSpec : ChangeSpec := { name := "inputValidates", fn := fun _ => fun
  | [d1, d2, d3, d4] => { results := [.lit (.bool true)], args := [d1, d2, d3, d4] }
  | _ => none }
def inputValidatesRow : OpenClaim := { program := "ytlaeambhdpagdaadoor", sum := "8e104f5a5cf89a36993e0eaf47ffcbef788e1a465c51d7c60156e08224b67749", func := "arenanet/arenanetlaw21.InputValidates", spec := "inputValidates", named := ["arenanet/input.inputs"], apart := false, laid := [("arenanet/input.inputs", laid_arenanet_input_inputs)] }
def InputValidatesSaid : Prop := inputValidatesRow.holds Tryd.pinned (OpenSpec.ofChange inputValidatesSpec)

/-- ITS FALSE NEIGHBOUR: 'it returns false'. Refute it at one input. -/
def inputValidatesWrong : ChangeSpec := { name := "inputValidates", fn := fun _ => fun
  | [d1, d2, d3, d4] => { results := [.lit (.bool false)], args := [d1, d2, d3, d4] }
  | _ => none }
def InputValidatesWrongFalsely : Prop := inputValidatesRow.holds Tryd.pinned (OpenSpec.ofChange inputValidatesWrong)

/-- 'arenanetlaw21.InputBijection': WHATEVER THE INPUT: true; the input reads as it did. -/
def inputBijectionSpec : ChangeSpec := { name := "inputBijection", fn := fun _ => fun
  | [d1, d2, d3] => { results := [.lit (.bool true)], args := [d1, d2, d3] }
  | _ => none }
def inputBijectionRow : OpenClaim := { program := "ytlaeambhdpagdaadoor", sum := "8e104f5a5cf89a36993e0eaf47ffcbef788e1a465c51d7c60156e08224b67749", func := "arenanet/arenanetlaw21.InputBijection", spec := "inputBijection", named := ["arenanet/input.inputs"], apart := false, laid := [("arenanet/input.inputs", laid_arenanet_input_inputs)] }
def InputBijectionSaid : Prop := inputBijectionRow.holds Tryd.pinned (OpenSpec.ofChange inputBijectionSpec)

/-- ITS FALSE NEIGHBOUR: 'it returns false'. Refute it at one input. -/
def inputBijectionWrong : ChangeSpec := { name := "inputBijection", fn := fun _ => fun
  | [d1, d2, d3] => { results := [.lit (.bool false)], args := [d1, d2, d3] }
  | _ => none }
def InputBijectionWrongFalsely : Prop := inputBijectionRow.holds Tryd.pinned (OpenSpec.ofChange inputBijectionWrong)

/-- 'arenanetlaw21.InputPredicts': WHATEVER THE INPUT: true; the input reads as it did. -/
def inputPredictsSpec : ChangeSpec := { name := "inputPredicts", fn := fun _ => fun
  | [d1, d2] => { results := [.lit (.bool true)], args := [d1, d2] }
  | _ => none }
def inputPredictsRow : OpenClaim := { program := "ytlaeambhdpagdaadoor", sum := "8e104f5a5cf89a36993e0eaf47ffcbef788e1a465c51d7c60156e08224b67749", func := "arenanet/arenanetlaw21.InputPredicts", spec := "inputPredicts", named := ["arenanet/input.inputs"], apart := false, laid := [("arenanet/input.inputs", laid_arenanet_input_inputs)] }
def InputPredictsSaid : Prop := inputPredictsRow.holds Tryd.pinned (OpenSpec.ofChange inputPredictsSpec)

/-- ITS FALSE NEIGHBOUR: 'it returns false'. Refute it at one input. -/
def inputPredictsWrong : ChangeSpec := { name := "inputPredicts", fn := fun _ => fun
  | [d1, d2] => { results := [.lit (.bool false)], args := [d1, d2] }
  | _ => none }
def InputPredictsWrongFalsely : Prop := inputPredictsRow.holds Tryd.pinned (OpenSpec.ofChange inputPredictsWrong)

/-- 'arenanetlaw21.InputRows': WHATEVER THE INPUT: true; the input reads as it did. -/
def inputRowsSpec : ChangeSpec := { name := "inputRows", fn := fun _ => fun
  | [d1, d2, d3] => { results := [.lit (.bool true)], args := [d1, d2, d3] }
  | _ => none }
def inputRowsRow : OpenClaim := { program := "ytlaeambhdpagdaadoor", sum := "8e104f5a5cf89a36993e0eaf47ffcbef788e1a465c51d7c60156e08224b67749", func := "arenanet/arenanetlaw21.InputRows", spec := "inputRows", named := ["arenanet/input.inputs"], apart := false, laid := [("arenanet/input.inputs", laid_arenanet_input_inputs)] }
def InputRowsSaid : Prop := inputRowsRow.holds Tryd.pinned (OpenSpec.ofChange inputRowsSpec)

/-- ITS FALSE NEIGHBOUR: 'it returns false'. Refute it at one input. -/
def inputRowsWrong : ChangeSpec := { name := "inputRows", fn := fun _ => fun
  | [d1, d2, d3] => { results := [.lit (.bool false)], args := [d1, d2, d3] }
  | _ => none }
def InputRowsWrongFalsely : Prop := inputRowsRow.holds Tryd.pinned (OpenSpec.ofChange inputRowsWrong)

/-- 'arenanetlaw21.InputRound': WHATEVER THE INPUT: true; the input reads as it did. -/
def inputRoundSpec : ChangeSpec := { name := "inputRound", fn := fun _ => fun
  | [d1, d2] => { results := [.lit (.bool true)], args := [d1, d2] }
  | _ => none }
def inputRoundRow : OpenClaim := { program := "ytlaeambhdpagdaadoor", sum := "8e104f5a5cf89a36993e0eaf47ffcbef788e1a465c51d7c60156e08224b67749", func := "arenanet/arenanetlaw21.InputRound", spec := "inputRound", named := ["arenanet/input.inputs"], apart := false, laid := [("arenanet/input.inputs", laid_arenanet_input_inputs)] }
def InputRoundSaid : Prop := inputRoundRow.holds Tryd.pinned (OpenSpec.ofChange inputRoundSpec)

/-- ITS FALSE NEIGHBOUR: 'it returns false'. Refute it at one input. -/
def inputRoundWrong : ChangeSpec := { name := "inputRound", fn := fun _ => fun
  | [d1, d2] => { results := [.lit (.bool false)], args := [d1, d2] }
  | _ => none }
def InputRoundWrongFalsely : Prop := inputRoundRow.holds Tryd.pinned (OpenSpec.ofChange inputRoundWrong)

/-- 'arenanetlaw21.InputOwn': WHATEVER THE INPUT: true; the input reads as it did. -/
def inputOwnSpec : ChangeSpec := { name := "inputOwn", fn := fun _ => fun
  | [d1, d2] => { results := [.lit (.bool true)], args := [d1, d2] }
  | _ => none }
def inputOwnRow : OpenClaim := { program := "ytlaeambhdpagdaadoor", sum := "8e104f5a5cf89a36993e0eaf47ffcbef788e1a465c51d7c60156e08224b67749", func := "arenanet/arenanetlaw21.InputOwn", spec := "inputOwn", named := ["arenanet/input.inputs"], apart := false, laid := [("arenanet/input.inputs", laid_arenanet_input_inputs)] }
def InputOwnSaid : Prop := inputOwnRow.holds Tryd.pinned (OpenSpec.ofChange inputOwnSpec)

/-- ITS FALSE NEIGHBOUR: 'it returns false'. Refute it at one input. -/
def inputOwnWrong : ChangeSpec := { name := "inputOwn", fn := fun _ => fun
  | [d1, d2] => { results := [.lit (.bool false)], args := [d1, d2] }
  | _ => none }
def InputOwnWrongFalsely : Prop := inputOwnRow.holds Tryd.pinned (OpenSpec.ofChange inputOwnWrong)

/- THE SECOND FORM. 'bulk': how many values and letters a reading holds, each counted each time it is reached (what is shared counts as often as it is met; a slice's spare places count too). A statement '..UptoSaid' is the law's where the arguments, and the package variables that the reading takes, are together of bulk at most 1048576: NARROWER than '..Said'. Prove '..Said' where nothing that the law and all that it calls make is longer than what came in: it says more and counts as full. Else prove '..UptoSaid'. A law counts once. -/
mutual
def uptoBulk {H : Type} : DataW H → Nat
  | .lit (.string bytes) => bytes.length + 1
  | .lit _ => 1
  | .nil => 1
  | .ptr d => uptoBulk d + 1
  | .slice elems spare => uptoBulkAll elems + uptoBulkAll spare + 1
  | .agg parts => uptoBulkAll parts + 1
  | .iface _ d => uptoBulk d + 1
  | .map entries => uptoBulkEntries entries + 1
  | .held _ => 1
def uptoBulkAll {H : Type} : List (DataW H) → Nat
  | [] => 0
  | d :: r => uptoBulk d + uptoBulkAll r
def uptoBulkEntries {H : Type} : List (Lit × DataW H) → Nat
  | [] => 0
  | x :: r => uptoBulkEntry x + uptoBulkEntries r
def uptoBulkEntry {H : Type} : Lit × DataW H → Nat
  | (.string bytes, d) => bytes.length + uptoBulk d + 1
  | (_, d) => uptoBulk d + 1
 end
def uptoSmall : (H : Type) → List (DataW H) → Bool := fun _ ds => decide (uptoBulkAll ds ≤ 1048576)
def OpenSpec.upto (s : _root_.Go.ChangeSpec) : _root_.Go.OpenSpec := { _root_.Go.OpenSpec.ofChange s with cond := some uptoSmall }

/-- 'arenanetlaw21.InputCodes', WHERE WHAT IT READS IS OF BULK AT MOST 1048576: true; the input reads as it did. -/
def inputCodesUptoRow : OpenClaim := { program := "ytlaeambhdpagdaadoor", sum := "8e104f5a5cf89a36993e0eaf47ffcbef788e1a465c51d7c60156e08224b67749", func := "arenanet/arenanetlaw21.InputCodes", spec := "inputCodes", named := ["arenanet/input.inputs"], apart := false, laid := [("arenanet/input.inputs", laid_arenanet_input_inputs)], narrowed := true }
def InputCodesUptoSaid : Prop := inputCodesUptoRow.holds Tryd.pinned (OpenSpec.upto inputCodesSpec)

/-- 'arenanetlaw21.InputValidates', WHERE WHAT IT READS IS OF BULK AT MOST 1048576: true; the input reads as it did. -/
def inputValidatesUptoRow : OpenClaim := { program := "ytlaeambhdpagdaadoor", sum := "8e104f5a5cf89a36993e0eaf47ffcbef788e1a465c51d7c60156e08224b67749", func := "arenanet/arenanetlaw21.InputValidates", spec := "inputValidates", named := ["arenanet/input.inputs"], apart := false, laid := [("arenanet/input.inputs", laid_arenanet_input_inputs)], narrowed := true }
def InputValidatesUptoSaid : Prop := inputValidatesUptoRow.holds Tryd.pinned (OpenSpec.upto inputValidatesSpec)

/-- 'arenanetlaw21.InputBijection', WHERE WHAT IT READS IS OF BULK AT MOST 1048576: true; the input reads as it did. -/
def inputBijectionUptoRow : OpenClaim := { program := "ytlaeambhdpagdaadoor", sum := "8e104f5a5cf89a36993e0eaf47ffcbef788e1a465c51d7c60156e08224b67749", func := "arenanet/arenanetlaw21.InputBijection", spec := "inputBijection", named := ["arenanet/input.inputs"], apart := false, laid := [("arenanet/input.inputs", laid_arenanet_input_inputs)], narrowed := true }
def InputBijectionUptoSaid : Prop := inputBijectionUptoRow.holds Tryd.pinned (OpenSpec.upto inputBijectionSpec)

/-- 'arenanetlaw21.InputPredicts', WHERE WHAT IT READS IS OF BULK AT MOST 1048576: true; the input reads as it did. -/
def inputPredictsUptoRow : OpenClaim := { program := "ytlaeambhdpagdaadoor", sum := "8e104f5a5cf89a36993e0eaf47ffcbef788e1a465c51d7c60156e08224b67749", func := "arenanet/arenanetlaw21.InputPredicts", spec := "inputPredicts", named := ["arenanet/input.inputs"], apart := false, laid := [("arenanet/input.inputs", laid_arenanet_input_inputs)], narrowed := true }
def InputPredictsUptoSaid : Prop := inputPredictsUptoRow.holds Tryd.pinned (OpenSpec.upto inputPredictsSpec)

/-- 'arenanetlaw21.InputRows', WHERE WHAT IT READS IS OF BULK AT MOST 1048576: true; the input reads as it did. -/
def inputRowsUptoRow : OpenClaim := { program := "ytlaeambhdpagdaadoor", sum := "8e104f5a5cf89a36993e0eaf47ffcbef788e1a465c51d7c60156e08224b67749", func := "arenanet/arenanetlaw21.InputRows", spec := "inputRows", named := ["arenanet/input.inputs"], apart := false, laid := [("arenanet/input.inputs", laid_arenanet_input_inputs)], narrowed := true }
def InputRowsUptoSaid : Prop := inputRowsUptoRow.holds Tryd.pinned (OpenSpec.upto inputRowsSpec)

/-- 'arenanetlaw21.InputRound', WHERE WHAT IT READS IS OF BULK AT MOST 1048576: true; the input reads as it did. -/
def inputRoundUptoRow : OpenClaim := { program := "ytlaeambhdpagdaadoor", sum := "8e104f5a5cf89a36993e0eaf47ffcbef788e1a465c51d7c60156e08224b67749", func := "arenanet/arenanetlaw21.InputRound", spec := "inputRound", named := ["arenanet/input.inputs"], apart := false, laid := [("arenanet/input.inputs", laid_arenanet_input_inputs)], narrowed := true }
def InputRoundUptoSaid : Prop := inputRoundUptoRow.holds Tryd.pinned (OpenSpec.upto inputRoundSpec)

/-- 'arenanetlaw21.InputOwn', WHERE WHAT IT READS IS OF BULK AT MOST 1048576: true; the input reads as it did. -/
def inputOwnUptoRow : OpenClaim := { program := "ytlaeambhdpagdaadoor", sum := "8e104f5a5cf89a36993e0eaf47ffcbef788e1a465c51d7c60156e08224b67749", func := "arenanet/arenanetlaw21.InputOwn", spec := "inputOwn", named := ["arenanet/input.inputs"], apart := false, laid := [("arenanet/input.inputs", laid_arenanet_input_inputs)], narrowed := true }
def InputOwnUptoSaid : Prop := inputOwnUptoRow.holds Tryd.pinned (OpenSpec.upto inputOwnSpec)

end Rows
end Go.Proofs.YtlaeambhdpagdaaDoor
