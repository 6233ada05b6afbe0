/-
  DERIVED. GIVEN WITH THE SEED: THE CARDS: each row of YtlaeambhdpagdaaDoorRows.lean that lists a variable, with what it lists TIED to the program's text (the seventh form; the later family's looks); each row that meets fmt, with fmt's text TOLD by the authors' own Lean function (tested against real Go, not proved from fmt's source: count such statements apart). THE CARD IS WHAT COUNTS. Prove the row's statement (the work); the ties are given (YtlaeambhdpagdaaDoorTie.lean); close each card by the builder's one call (the guide's Derived/Test/ToyasCard.lean, 'card_holds'). Laid BY PROGRAM, IN A SANDBOX (cutbox-door.mjs). By AI agents, Wed Nov 11 2026. No macro, syntax, notation, axiom, sorry.
-/
import Derived.Test.YtlaeambhdpagdaaDoorRows
import GoSem.ClaimSeven
namespace Go.Proofs.YtlaeambhdpagdaaDoor
namespace Rows

/-- THE TIED CARD OF 'arenanetlaw21.InputCodes'. -/
def inputCodesCard : Claim7 := { stood := { row := inputCodesRow, standIns := [], harness := (true, "745ee021b9b5be765db3689acf1e716ed1fe2f2bf81c180c4f8c75c79f50e81f"), looks := false }, kinds := [], alts := [], laidByText := true, laidKinds := [.data], laidTests := true, laidLooks := .later }
def InputCodesCardSaid : Prop := Claim7.holds Tryd.pinned (.plain (OpenSpec.ofChange inputCodesSpec)) inputCodesCard

/-- THE TIED CARD OF 'arenanetlaw21.InputValidates'. -/
def inputValidatesCard : Claim7 := { stood := { row := inputValidatesRow, standIns := [], harness := (true, "745ee021b9b5be765db3689acf1e716ed1fe2f2bf81c180c4f8c75c79f50e81f"), looks := false }, kinds := [], alts := [], laidByText := true, laidKinds := [.data], laidTests := true, laidLooks := .later }
def InputValidatesCardSaid : Prop := Claim7.holds Tryd.pinned (.plain (OpenSpec.ofChange inputValidatesSpec)) inputValidatesCard

/-- THE TIED CARD OF 'arenanetlaw21.InputBijection'. -/
def inputBijectionCard : Claim7 := { stood := { row := inputBijectionRow, standIns := [], harness := (true, "745ee021b9b5be765db3689acf1e716ed1fe2f2bf81c180c4f8c75c79f50e81f"), looks := false }, kinds := [], alts := [], laidByText := true, laidKinds := [.data], laidTests := true, laidLooks := .later }
def InputBijectionCardSaid : Prop := Claim7.holds Tryd.pinned (.plain (OpenSpec.ofChange inputBijectionSpec)) inputBijectionCard

/-- THE TIED CARD OF 'arenanetlaw21.InputPredicts'. -/
def inputPredictsCard : Claim7 := { stood := { row := inputPredictsRow, standIns := [], harness := (true, "745ee021b9b5be765db3689acf1e716ed1fe2f2bf81c180c4f8c75c79f50e81f"), looks := false }, kinds := [], alts := [], laidByText := true, laidKinds := [.data], laidTests := true, laidLooks := .later }
def InputPredictsCardSaid : Prop := Claim7.holds Tryd.pinned (.plain (OpenSpec.ofChange inputPredictsSpec)) inputPredictsCard

/-- THE TIED CARD OF 'arenanetlaw21.InputRows'. -/
def inputRowsCard : Claim7 := { stood := { row := inputRowsRow, standIns := [], harness := (true, "745ee021b9b5be765db3689acf1e716ed1fe2f2bf81c180c4f8c75c79f50e81f"), looks := false }, kinds := [], alts := [], laidByText := true, laidKinds := [.data], laidTests := true, laidLooks := .later }
def InputRowsCardSaid : Prop := Claim7.holds Tryd.pinned (.plain (OpenSpec.ofChange inputRowsSpec)) inputRowsCard

/-- THE TIED CARD OF 'arenanetlaw21.InputRound'. -/
def inputRoundCard : Claim7 := { stood := { row := inputRoundRow, standIns := [], harness := (true, "745ee021b9b5be765db3689acf1e716ed1fe2f2bf81c180c4f8c75c79f50e81f"), looks := false }, kinds := [], alts := [], laidByText := true, laidKinds := [.data], laidTests := true, laidLooks := .later }
def InputRoundCardSaid : Prop := Claim7.holds Tryd.pinned (.plain (OpenSpec.ofChange inputRoundSpec)) inputRoundCard

/-- THE TIED CARD OF 'arenanetlaw21.InputOwn'. -/
def inputOwnCard : Claim7 := { stood := { row := inputOwnRow, standIns := [], harness := (true, "745ee021b9b5be765db3689acf1e716ed1fe2f2bf81c180c4f8c75c79f50e81f"), looks := false }, kinds := [], alts := [], laidByText := true, laidKinds := [.data], laidTests := true, laidLooks := .later }
def InputOwnCardSaid : Prop := Claim7.holds Tryd.pinned (.plain (OpenSpec.ofChange inputOwnSpec)) inputOwnCard

/-- THE SECOND FORM's CARD OF 'arenanetlaw21.InputCodes'. -/
def inputCodesUptoCard : Claim7 := { stood := { row := inputCodesUptoRow, standIns := [], harness := (true, "745ee021b9b5be765db3689acf1e716ed1fe2f2bf81c180c4f8c75c79f50e81f"), looks := false }, kinds := [], alts := [], laidByText := true, laidKinds := [.data], laidTests := true, laidLooks := .later }
def InputCodesUptoCardSaid : Prop := Claim7.holds Tryd.pinned (.plain (OpenSpec.upto inputCodesSpec)) inputCodesUptoCard

/-- THE SECOND FORM's CARD OF 'arenanetlaw21.InputValidates'. -/
def inputValidatesUptoCard : Claim7 := { stood := { row := inputValidatesUptoRow, standIns := [], harness := (true, "745ee021b9b5be765db3689acf1e716ed1fe2f2bf81c180c4f8c75c79f50e81f"), looks := false }, kinds := [], alts := [], laidByText := true, laidKinds := [.data], laidTests := true, laidLooks := .later }
def InputValidatesUptoCardSaid : Prop := Claim7.holds Tryd.pinned (.plain (OpenSpec.upto inputValidatesSpec)) inputValidatesUptoCard

/-- THE SECOND FORM's CARD OF 'arenanetlaw21.InputBijection'. -/
def inputBijectionUptoCard : Claim7 := { stood := { row := inputBijectionUptoRow, standIns := [], harness := (true, "745ee021b9b5be765db3689acf1e716ed1fe2f2bf81c180c4f8c75c79f50e81f"), looks := false }, kinds := [], alts := [], laidByText := true, laidKinds := [.data], laidTests := true, laidLooks := .later }
def InputBijectionUptoCardSaid : Prop := Claim7.holds Tryd.pinned (.plain (OpenSpec.upto inputBijectionSpec)) inputBijectionUptoCard

/-- THE SECOND FORM's CARD OF 'arenanetlaw21.InputPredicts'. -/
def inputPredictsUptoCard : Claim7 := { stood := { row := inputPredictsUptoRow, standIns := [], harness := (true, "745ee021b9b5be765db3689acf1e716ed1fe2f2bf81c180c4f8c75c79f50e81f"), looks := false }, kinds := [], alts := [], laidByText := true, laidKinds := [.data], laidTests := true, laidLooks := .later }
def InputPredictsUptoCardSaid : Prop := Claim7.holds Tryd.pinned (.plain (OpenSpec.upto inputPredictsSpec)) inputPredictsUptoCard

/-- THE SECOND FORM's CARD OF 'arenanetlaw21.InputRows'. -/
def inputRowsUptoCard : Claim7 := { stood := { row := inputRowsUptoRow, standIns := [], harness := (true, "745ee021b9b5be765db3689acf1e716ed1fe2f2bf81c180c4f8c75c79f50e81f"), looks := false }, kinds := [], alts := [], laidByText := true, laidKinds := [.data], laidTests := true, laidLooks := .later }
def InputRowsUptoCardSaid : Prop := Claim7.holds Tryd.pinned (.plain (OpenSpec.upto inputRowsSpec)) inputRowsUptoCard

/-- THE SECOND FORM's CARD OF 'arenanetlaw21.InputRound'. -/
def inputRoundUptoCard : Claim7 := { stood := { row := inputRoundUptoRow, standIns := [], harness := (true, "745ee021b9b5be765db3689acf1e716ed1fe2f2bf81c180c4f8c75c79f50e81f"), looks := false }, kinds := [], alts := [], laidByText := true, laidKinds := [.data], laidTests := true, laidLooks := .later }
def InputRoundUptoCardSaid : Prop := Claim7.holds Tryd.pinned (.plain (OpenSpec.upto inputRoundSpec)) inputRoundUptoCard

/-- THE SECOND FORM's CARD OF 'arenanetlaw21.InputOwn'. -/
def inputOwnUptoCard : Claim7 := { stood := { row := inputOwnUptoRow, standIns := [], harness := (true, "745ee021b9b5be765db3689acf1e716ed1fe2f2bf81c180c4f8c75c79f50e81f"), looks := false }, kinds := [], alts := [], laidByText := true, laidKinds := [.data], laidTests := true, laidLooks := .later }
def InputOwnUptoCardSaid : Prop := Claim7.holds Tryd.pinned (.plain (OpenSpec.upto inputOwnSpec)) inputOwnUptoCard
end Rows
end Go.Proofs.YtlaeambhdpagdaaDoor
