/-
  No cell of these rows narrows 'for every input' (looked for: loops, veiled, ifaces, maps, wideKeys, modest, calm, conditions, laid).
  DERIVED. THE GIVEN ROWS OF THIS SEAT. 6 by the template 'for every input the law returns true; each argument reads behind the call as it read before'; 0 by the template 'total and deterministic' (their statements: YtojmkfhinkmhaaaTotals.lean).
  GIVEN WITH THE SEED: the statements are not yours to turn. If you find one false, say at which input.
  Laid BY PROGRAM, IN A SANDBOX (cutbox-rows.mjs): the forced cells as the released guide's own fill.sh prints them over the translation 7aeef24b671677a4… (all of the seat's roots in one cut). By AI agents, Wed Nov 11 2026. No macro, syntax, notation, axiom, sorry.
-/
import Derived.Test.YtojmkfhinkmhaaaChecked
import GoSem.Claim
import GoSem.ClaimJoined
import GoSem.ClaimMapViews
import Derived.JoinedTies
import Derived.KernelRfl
namespace Go.Proofs.Ytojmkfhinkmhaaa
/- THE CELL 'sum', in the pinned program and in every row, IS THE sha256 OF THE DUMP (.gsa) THAT YtojmkfhinkmhaaaProg.lean LOADS. Nothing in Lean hashes anything: it is a label: what it is worth is what the hold of that sum in a sandbox is worth. -/
noncomputable def Try.pinned : Pinned := { name := "ytojmkfhinkmhaaa", sum := "7aeef24b671677a48131d7683dc9a66236ce9892e3550086dad4699324a53b76", checked := Try.checked }
namespace Rows
def none {H : Type} : Left H := { results := [], args := [] }

/-- 'arenanetlaw31.CommitrevealCommits': WHATEVER THE INPUT: true; the input reads as it did. -/
def commitrevealCommitsSpec : ChangeSpec := { name := "commitrevealCommits", fn := fun _ => fun
  | [d1, d2, d3, d4] => { results := [.lit (.bool true)], args := [d1, d2, d3, d4] }
  | _ => none }
def commitrevealCommitsRow : OpenClaim := { program := "ytojmkfhinkmhaaa", sum := "7aeef24b671677a48131d7683dc9a66236ce9892e3550086dad4699324a53b76", func := "arenanet/arenanetlaw31.CommitrevealCommits", spec := "commitrevealCommits", unfollowed := true, recurses := true, apart := false }
def CommitrevealCommitsSaid : Prop := commitrevealCommitsRow.holds Try.pinned (OpenSpec.ofChange commitrevealCommitsSpec)

/-- ITS FALSE NEIGHBOUR: 'it returns false'. Refute it at one input. -/
def commitrevealCommitsWrong : ChangeSpec := { name := "commitrevealCommits", fn := fun _ => fun
  | [d1, d2, d3, d4] => { results := [.lit (.bool false)], args := [d1, d2, d3, d4] }
  | _ => none }
def CommitrevealCommitsWrongFalsely : Prop := commitrevealCommitsRow.holds Try.pinned (OpenSpec.ofChange commitrevealCommitsWrong)

/-- 'arenanetlaw31.CommitrevealHonest': WHATEVER THE INPUT: true; the input reads as it did. -/
def commitrevealHonestSpec : ChangeSpec := { name := "commitrevealHonest", fn := fun _ => fun
  | [d1, d2, d3, d4] => { results := [.lit (.bool true)], args := [d1, d2, d3, d4] }
  | _ => none }
def commitrevealHonestRow : OpenClaim := { program := "ytojmkfhinkmhaaa", sum := "7aeef24b671677a48131d7683dc9a66236ce9892e3550086dad4699324a53b76", func := "arenanet/arenanetlaw31.CommitrevealHonest", spec := "commitrevealHonest", unfollowed := true, recurses := true, apart := false }
def CommitrevealHonestSaid : Prop := commitrevealHonestRow.holds Try.pinned (OpenSpec.ofChange commitrevealHonestSpec)

/-- ITS FALSE NEIGHBOUR: 'it returns false'. Refute it at one input. -/
def commitrevealHonestWrong : ChangeSpec := { name := "commitrevealHonest", fn := fun _ => fun
  | [d1, d2, d3, d4] => { results := [.lit (.bool false)], args := [d1, d2, d3, d4] }
  | _ => none }
def CommitrevealHonestWrongFalsely : Prop := commitrevealHonestRow.holds Try.pinned (OpenSpec.ofChange commitrevealHonestWrong)

/-- 'arenanetlaw31.CommitrevealBinds': WHATEVER THE INPUT: true; the input reads as it did. -/
def commitrevealBindsSpec : ChangeSpec := { name := "commitrevealBinds", fn := fun _ => fun
  | [d1, d2, d3, d4, d5] => { results := [.lit (.bool true)], args := [d1, d2, d3, d4, d5] }
  | _ => none }
def commitrevealBindsRow : OpenClaim := { program := "ytojmkfhinkmhaaa", sum := "7aeef24b671677a48131d7683dc9a66236ce9892e3550086dad4699324a53b76", func := "arenanet/arenanetlaw31.CommitrevealBinds", spec := "commitrevealBinds", unfollowed := true, recurses := true, apart := false }
def CommitrevealBindsSaid : Prop := commitrevealBindsRow.holds Try.pinned (OpenSpec.ofChange commitrevealBindsSpec)

/-- ITS FALSE NEIGHBOUR: 'it returns false'. Refute it at one input. -/
def commitrevealBindsWrong : ChangeSpec := { name := "commitrevealBinds", fn := fun _ => fun
  | [d1, d2, d3, d4, d5] => { results := [.lit (.bool false)], args := [d1, d2, d3, d4, d5] }
  | _ => none }
def CommitrevealBindsWrongFalsely : Prop := commitrevealBindsRow.holds Try.pinned (OpenSpec.ofChange commitrevealBindsWrong)

/-- 'arenanetlaw31.CommitrevealAlone': WHATEVER THE INPUT: true; the input reads as it did. -/
def commitrevealAloneSpec : ChangeSpec := { name := "commitrevealAlone", fn := fun _ => fun
  | [d1, d2, d3] => { results := [.lit (.bool true)], args := [d1, d2, d3] }
  | _ => none }
def commitrevealAloneRow : OpenClaim := { program := "ytojmkfhinkmhaaa", sum := "7aeef24b671677a48131d7683dc9a66236ce9892e3550086dad4699324a53b76", func := "arenanet/arenanetlaw31.CommitrevealAlone", spec := "commitrevealAlone", unfollowed := true, recurses := true, apart := false }
def CommitrevealAloneSaid : Prop := commitrevealAloneRow.holds Try.pinned (OpenSpec.ofChange commitrevealAloneSpec)

/-- ITS FALSE NEIGHBOUR: 'it returns false'. Refute it at one input. -/
def commitrevealAloneWrong : ChangeSpec := { name := "commitrevealAlone", fn := fun _ => fun
  | [d1, d2, d3] => { results := [.lit (.bool false)], args := [d1, d2, d3] }
  | _ => none }
def CommitrevealAloneWrongFalsely : Prop := commitrevealAloneRow.holds Try.pinned (OpenSpec.ofChange commitrevealAloneWrong)

/-- 'arenanetlaw31.CommitrevealFaults': WHATEVER THE INPUT: true; the input reads as it did. -/
def commitrevealFaultsSpec : ChangeSpec := { name := "commitrevealFaults", fn := fun _ => fun
  | [d1, d2] => { results := [.lit (.bool true)], args := [d1, d2] }
  | _ => none }
def commitrevealFaultsRow : OpenClaim := { program := "ytojmkfhinkmhaaa", sum := "7aeef24b671677a48131d7683dc9a66236ce9892e3550086dad4699324a53b76", func := "arenanet/arenanetlaw31.CommitrevealFaults", spec := "commitrevealFaults", unfollowed := true, recurses := true, apart := false }
def CommitrevealFaultsSaid : Prop := commitrevealFaultsRow.holds Try.pinned (OpenSpec.ofChange commitrevealFaultsSpec)

/-- ITS FALSE NEIGHBOUR: 'it returns false'. Refute it at one input. -/
def commitrevealFaultsWrong : ChangeSpec := { name := "commitrevealFaults", fn := fun _ => fun
  | [d1, d2] => { results := [.lit (.bool false)], args := [d1, d2] }
  | _ => none }
def CommitrevealFaultsWrongFalsely : Prop := commitrevealFaultsRow.holds Try.pinned (OpenSpec.ofChange commitrevealFaultsWrong)

/-- 'arenanetlaw31.CommitrevealPlays': WHATEVER THE INPUT: true; the input reads as it did. -/
def commitrevealPlaysSpec : ChangeSpec := { name := "commitrevealPlays", fn := fun _ => fun
  | [d1, d2, d3, d4, d5, d6] => { results := [.lit (.bool true)], args := [d1, d2, d3, d4, d5, d6] }
  | _ => none }
def commitrevealPlaysRow : OpenClaim := { program := "ytojmkfhinkmhaaa", sum := "7aeef24b671677a48131d7683dc9a66236ce9892e3550086dad4699324a53b76", func := "arenanet/arenanetlaw31.CommitrevealPlays", spec := "commitrevealPlays", unfollowed := true, recurses := true, apart := false }
def CommitrevealPlaysSaid : Prop := commitrevealPlaysRow.holds Try.pinned (OpenSpec.ofChange commitrevealPlaysSpec)

/-- ITS FALSE NEIGHBOUR: 'it returns false'. Refute it at one input. -/
def commitrevealPlaysWrong : ChangeSpec := { name := "commitrevealPlays", fn := fun _ => fun
  | [d1, d2, d3, d4, d5, d6] => { results := [.lit (.bool false)], args := [d1, d2, d3, d4, d5, d6] }
  | _ => none }
def CommitrevealPlaysWrongFalsely : Prop := commitrevealPlaysRow.holds Try.pinned (OpenSpec.ofChange commitrevealPlaysWrong)

/- THE SECOND FORM. 'bulk': how many values and letters a reading holds, each counted each time it is reached (what is shared counts as often as it is met; a slice's spare places count too). A statement '..UptoSaid' is the law's where the arguments, and the package variables that the reading takes, are together of bulk at most 1048576: NARROWER than '..Said'. Prove '..Said' where nothing that the law and all that it calls make is longer than what came in: it says more and counts as full. Else prove '..UptoSaid'. A law counts once. -/
mutual
def uptoBulk {H : Type} : DataW H → Nat
  | .lit (.string bytes) => bytes.length + 1
  | .lit _ => 1
  | .nil => 1
  | .ptr d => uptoBulk d + 1
  | .slice elems spare => uptoBulkAll elems + uptoBulkAll spare + 1
  | .agg parts => uptoBulkAll parts + 1
  | .iface _ d => uptoBulk d + 1
  | .map entries => uptoBulkEntries entries + 1
  | .held _ => 1
def uptoBulkAll {H : Type} : List (DataW H) → Nat
  | [] => 0
  | d :: r => uptoBulk d + uptoBulkAll r
def uptoBulkEntries {H : Type} : List (Lit × DataW H) → Nat
  | [] => 0
  | x :: r => uptoBulkEntry x + uptoBulkEntries r
def uptoBulkEntry {H : Type} : Lit × DataW H → Nat
  | (.string bytes, d) => bytes.length + uptoBulk d + 1
  | (_, d) => uptoBulk d + 1
 end
def uptoSmall : (H : Type) → List (DataW H) → Bool := fun _ ds => decide (uptoBulkAll ds ≤ 1048576)
def OpenSpec.upto (s : _root_.Go.ChangeSpec) : _root_.Go.OpenSpec := { _root_.Go.OpenSpec.ofChange s with cond := some uptoSmall }

/-- 'arenanetlaw31.CommitrevealCommits', WHERE WHAT IT READS IS OF BULK AT MOST 1048576: true; the input reads as it did. -/
def commitrevealCommitsUptoRow : OpenClaim := { program := "ytojmkfhinkmhaaa", sum := "7aeef24b671677a48131d7683dc9a66236ce9892e3550086dad4699324a53b76", func := "arenanet/arenanetlaw31.CommitrevealCommits", spec := "commitrevealCommits", unfollowed := true, recurses := true, apart := false, narrowed := true }
def CommitrevealCommitsUptoSaid : Prop := commitrevealCommitsUptoRow.holds Try.pinned (OpenSpec.upto commitrevealCommitsSpec)

/-- 'arenanetlaw31.CommitrevealHonest', WHERE WHAT IT READS IS OF BULK AT MOST 1048576: true; the input reads as it did. -/
def commitrevealHonestUptoRow : OpenClaim := { program := "ytojmkfhinkmhaaa", sum := "7aeef24b671677a48131d7683dc9a66236ce9892e3550086dad4699324a53b76", func := "arenanet/arenanetlaw31.CommitrevealHonest", spec := "commitrevealHonest", unfollowed := true, recurses := true, apart := false, narrowed := true }
def CommitrevealHonestUptoSaid : Prop := commitrevealHonestUptoRow.holds Try.pinned (OpenSpec.upto commitrevealHonestSpec)

/-- 'arenanetlaw31.CommitrevealBinds', WHERE WHAT IT READS IS OF BULK AT MOST 1048576: true; the input reads as it did. -/
def commitrevealBindsUptoRow : OpenClaim := { program := "ytojmkfhinkmhaaa", sum := "7aeef24b671677a48131d7683dc9a66236ce9892e3550086dad4699324a53b76", func := "arenanet/arenanetlaw31.CommitrevealBinds", spec := "commitrevealBinds", unfollowed := true, recurses := true, apart := false, narrowed := true }
def CommitrevealBindsUptoSaid : Prop := commitrevealBindsUptoRow.holds Try.pinned (OpenSpec.upto commitrevealBindsSpec)

/-- 'arenanetlaw31.CommitrevealAlone', WHERE WHAT IT READS IS OF BULK AT MOST 1048576: true; the input reads as it did. -/
def commitrevealAloneUptoRow : OpenClaim := { program := "ytojmkfhinkmhaaa", sum := "7aeef24b671677a48131d7683dc9a66236ce9892e3550086dad4699324a53b76", func := "arenanet/arenanetlaw31.CommitrevealAlone", spec := "commitrevealAlone", unfollowed := true, recurses := true, apart := false, narrowed := true }
def CommitrevealAloneUptoSaid : Prop := commitrevealAloneUptoRow.holds Try.pinned (OpenSpec.upto commitrevealAloneSpec)

/-- 'arenanetlaw31.CommitrevealFaults', WHERE WHAT IT READS IS OF BULK AT MOST 1048576: true; the input reads as it did. -/
def commitrevealFaultsUptoRow : OpenClaim := { program := "ytojmkfhinkmhaaa", sum := "7aeef24b671677a48131d7683dc9a66236ce9892e3550086dad4699324a53b76", func := "arenanet/arenanetlaw31.CommitrevealFaults", spec := "commitrevealFaults", unfollowed := true, recurses := true, apart := false, narrowed := true }
def CommitrevealFaultsUptoSaid : Prop := commitrevealFaultsUptoRow.holds Try.pinned (OpenSpec.upto commitrevealFaultsSpec)

/-- 'arenanetlaw31.CommitrevealPlays', WHERE WHAT IT READS IS OF BULK AT MOST 1048576: true; the input reads as it did. -/
def commitrevealPlaysUptoRow : OpenClaim := { program := "ytojmkfhinkmhaaa", sum := "7aeef24b671677a48131d7683dc9a66236ce9892e3550086dad4699324a53b76", func := "arenanet/arenanetlaw31.CommitrevealPlays", spec := "commitrevealPlays", unfollowed := true, recurses := true, apart := false, narrowed := true }
def CommitrevealPlaysUptoSaid : Prop := commitrevealPlaysUptoRow.holds Try.pinned (OpenSpec.upto commitrevealPlaysSpec)

end Rows
end Go.Proofs.Ytojmkfhinkmhaaa
