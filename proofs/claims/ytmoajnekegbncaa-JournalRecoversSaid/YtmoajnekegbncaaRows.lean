/-
  No cell of these rows narrows 'for every input' (looked for: loops, veiled, ifaces, maps, wideKeys, modest, calm, conditions, laid).
  DERIVED. THE GIVEN ROWS OF THIS SEAT. 7 by the template 'for every input the law returns true; each argument reads behind the call as it read before'; 0 by the template 'total and deterministic' (their statements: YtmoajnekegbncaaTotals.lean).
  GIVEN WITH THE SEED: the statements are not yours to turn. If you find one false, say at which input.
  Laid BY PROGRAM, IN A SANDBOX (cutbox-rows.mjs): the forced cells as the released guide's own fill.sh prints them over the translation 405695e55e6f219d… (all of the seat's roots in one cut). By AI agents, Wed Nov 11 2026. No macro, syntax, notation, axiom, sorry.
-/
import Derived.Test.YtmoajnekegbncaaChecked
import GoSem.Claim
import GoSem.ClaimJoined
import GoSem.ClaimMapViews
import Derived.JoinedTies
import Derived.KernelRfl
namespace Go.Proofs.Ytmoajnekegbncaa
/- THE CELL 'sum', in the pinned program and in every row, IS THE sha256 OF THE DUMP (.gsa) THAT YtmoajnekegbncaaProg.lean LOADS. Nothing in Lean hashes anything: it is a label: what it is worth is what the hold of that sum in a sandbox is worth. -/
noncomputable def Try.pinned : Pinned := { name := "ytmoajnekegbncaa", sum := "405695e55e6f219d9747ad9fce48e082a631a94ae3f0aa6bd3dc850b56cf6147", checked := Try.checked }
namespace Rows
def none {H : Type} : Left H := { results := [], args := [] }

/-- 'arenanetlaw34.JournalBytes': WHATEVER THE INPUT: true; the input reads as it did. -/
def journalBytesSpec : ChangeSpec := { name := "journalBytes", fn := fun _ => fun
  | [d] => { results := [.lit (.bool true)], args := [d] }
  | _ => none }
def journalBytesRow : OpenClaim := { program := "ytmoajnekegbncaa", sum := "405695e55e6f219d9747ad9fce48e082a631a94ae3f0aa6bd3dc850b56cf6147", func := "arenanet/arenanetlaw34.JournalBytes", spec := "journalBytes", inPlace := ["internal/reflectlite.TypeOf"], unfollowed := true, recurses := true, apart := false }
def JournalBytesSaid : Prop := journalBytesRow.holds Try.pinned (OpenSpec.ofChange journalBytesSpec)

/-- ITS FALSE NEIGHBOUR: 'it returns false'. Refute it at one input. -/
def journalBytesWrong : ChangeSpec := { name := "journalBytes", fn := fun _ => fun
  | [d] => { results := [.lit (.bool false)], args := [d] }
  | _ => none }
def JournalBytesWrongFalsely : Prop := journalBytesRow.holds Try.pinned (OpenSpec.ofChange journalBytesWrong)

/-- 'arenanetlaw34.JournalPrefix': WHATEVER THE INPUT: true; the input reads as it did. -/
def journalPrefixSpec : ChangeSpec := { name := "journalPrefix", fn := fun _ => fun
  | [d1, d2, d3] => { results := [.lit (.bool true)], args := [d1, d2, d3] }
  | _ => none }
def journalPrefixRow : OpenClaim := { program := "ytmoajnekegbncaa", sum := "405695e55e6f219d9747ad9fce48e082a631a94ae3f0aa6bd3dc850b56cf6147", func := "arenanet/arenanetlaw34.JournalPrefix", spec := "journalPrefix", inPlace := ["internal/reflectlite.TypeOf"], unfollowed := true, recurses := true, apart := false }
def JournalPrefixSaid : Prop := journalPrefixRow.holds Try.pinned (OpenSpec.ofChange journalPrefixSpec)

/-- ITS FALSE NEIGHBOUR: 'it returns false'. Refute it at one input. -/
def journalPrefixWrong : ChangeSpec := { name := "journalPrefix", fn := fun _ => fun
  | [d1, d2, d3] => { results := [.lit (.bool false)], args := [d1, d2, d3] }
  | _ => none }
def JournalPrefixWrongFalsely : Prop := journalPrefixRow.holds Try.pinned (OpenSpec.ofChange journalPrefixWrong)

/-- 'arenanetlaw34.JournalCorrupt': WHATEVER THE INPUT: true; the input reads as it did. -/
def journalCorruptSpec : ChangeSpec := { name := "journalCorrupt", fn := fun _ => fun
  | [d1, d2, d3, d4] => { results := [.lit (.bool true)], args := [d1, d2, d3, d4] }
  | _ => none }
def journalCorruptRow : OpenClaim := { program := "ytmoajnekegbncaa", sum := "405695e55e6f219d9747ad9fce48e082a631a94ae3f0aa6bd3dc850b56cf6147", func := "arenanet/arenanetlaw34.JournalCorrupt", spec := "journalCorrupt", inPlace := ["internal/reflectlite.TypeOf"], unfollowed := true, recurses := true, apart := false }
def JournalCorruptSaid : Prop := journalCorruptRow.holds Try.pinned (OpenSpec.ofChange journalCorruptSpec)

/-- ITS FALSE NEIGHBOUR: 'it returns false'. Refute it at one input. -/
def journalCorruptWrong : ChangeSpec := { name := "journalCorrupt", fn := fun _ => fun
  | [d1, d2, d3, d4] => { results := [.lit (.bool false)], args := [d1, d2, d3, d4] }
  | _ => none }
def JournalCorruptWrongFalsely : Prop := journalCorruptRow.holds Try.pinned (OpenSpec.ofChange journalCorruptWrong)

/-- 'arenanetlaw34.JournalSums': WHATEVER THE INPUT: true; the input reads as it did. -/
def journalSumsSpec : ChangeSpec := { name := "journalSums", fn := fun _ => fun
  | [d] => { results := [.lit (.bool true)], args := [d] }
  | _ => none }
def journalSumsRow : OpenClaim := { program := "ytmoajnekegbncaa", sum := "405695e55e6f219d9747ad9fce48e082a631a94ae3f0aa6bd3dc850b56cf6147", func := "arenanet/arenanetlaw34.JournalSums", spec := "journalSums", inPlace := ["internal/reflectlite.TypeOf"], unfollowed := true, recurses := true, apart := false }
def JournalSumsSaid : Prop := journalSumsRow.holds Try.pinned (OpenSpec.ofChange journalSumsSpec)

/-- ITS FALSE NEIGHBOUR: 'it returns false'. Refute it at one input. -/
def journalSumsWrong : ChangeSpec := { name := "journalSums", fn := fun _ => fun
  | [d] => { results := [.lit (.bool false)], args := [d] }
  | _ => none }
def JournalSumsWrongFalsely : Prop := journalSumsRow.holds Try.pinned (OpenSpec.ofChange journalSumsWrong)

/-- 'arenanetlaw34.JournalLimits': WHATEVER THE INPUT: true; the input reads as it did. -/
def journalLimitsSpec : ChangeSpec := { name := "journalLimits", fn := fun _ => fun
  | [d1, d2] => { results := [.lit (.bool true)], args := [d1, d2] }
  | _ => none }
def journalLimitsRow : OpenClaim := { program := "ytmoajnekegbncaa", sum := "405695e55e6f219d9747ad9fce48e082a631a94ae3f0aa6bd3dc850b56cf6147", func := "arenanet/arenanetlaw34.JournalLimits", spec := "journalLimits", inPlace := ["internal/reflectlite.TypeOf"], unfollowed := true, recurses := true, apart := false }
def JournalLimitsSaid : Prop := journalLimitsRow.holds Try.pinned (OpenSpec.ofChange journalLimitsSpec)

/-- ITS FALSE NEIGHBOUR: 'it returns false'. Refute it at one input. -/
def journalLimitsWrong : ChangeSpec := { name := "journalLimits", fn := fun _ => fun
  | [d1, d2] => { results := [.lit (.bool false)], args := [d1, d2] }
  | _ => none }
def JournalLimitsWrongFalsely : Prop := journalLimitsRow.holds Try.pinned (OpenSpec.ofChange journalLimitsWrong)

/-- 'arenanetlaw34.JournalOwn': WHATEVER THE INPUT: true; the input reads as it did. -/
def journalOwnSpec : ChangeSpec := { name := "journalOwn", fn := fun _ => fun
  | [d] => { results := [.lit (.bool true)], args := [d] }
  | _ => none }
def journalOwnRow : OpenClaim := { program := "ytmoajnekegbncaa", sum := "405695e55e6f219d9747ad9fce48e082a631a94ae3f0aa6bd3dc850b56cf6147", func := "arenanet/arenanetlaw34.JournalOwn", spec := "journalOwn", inPlace := ["internal/reflectlite.TypeOf"], unfollowed := true, recurses := true, apart := false }
def JournalOwnSaid : Prop := journalOwnRow.holds Try.pinned (OpenSpec.ofChange journalOwnSpec)

/-- ITS FALSE NEIGHBOUR: 'it returns false'. Refute it at one input. -/
def journalOwnWrong : ChangeSpec := { name := "journalOwn", fn := fun _ => fun
  | [d] => { results := [.lit (.bool false)], args := [d] }
  | _ => none }
def JournalOwnWrongFalsely : Prop := journalOwnRow.holds Try.pinned (OpenSpec.ofChange journalOwnWrong)

/-- 'arenanetlaw34.JournalRecovers': WHATEVER THE INPUT: true; the input reads as it did. -/
def journalRecoversSpec : ChangeSpec := { name := "journalRecovers", fn := fun _ => fun
  | [d1, d2, d3] => { results := [.lit (.bool true)], args := [d1, d2, d3] }
  | _ => none }
def journalRecoversRow : OpenClaim := { program := "ytmoajnekegbncaa", sum := "405695e55e6f219d9747ad9fce48e082a631a94ae3f0aa6bd3dc850b56cf6147", func := "arenanet/arenanetlaw34.JournalRecovers", spec := "journalRecovers", inPlace := ["internal/reflectlite.TypeOf"], unfollowed := true, recurses := true, apart := false }
def JournalRecoversSaid : Prop := journalRecoversRow.holds Try.pinned (OpenSpec.ofChange journalRecoversSpec)

/-- ITS FALSE NEIGHBOUR: 'it returns false'. Refute it at one input. -/
def journalRecoversWrong : ChangeSpec := { name := "journalRecovers", fn := fun _ => fun
  | [d1, d2, d3] => { results := [.lit (.bool false)], args := [d1, d2, d3] }
  | _ => none }
def JournalRecoversWrongFalsely : Prop := journalRecoversRow.holds Try.pinned (OpenSpec.ofChange journalRecoversWrong)

/- THE SECOND FORM. 'bulk': how many values and letters a reading holds, each counted each time it is reached (what is shared counts as often as it is met; a slice's spare places count too). A statement '..UptoSaid' is the law's where the arguments, and the package variables that the reading takes, are together of bulk at most 1048576: NARROWER than '..Said'. Prove '..Said' where nothing that the law and all that it calls make is longer than what came in: it says more and counts as full. Else prove '..UptoSaid'. A law counts once. -/
mutual
def uptoBulk {H : Type} : DataW H → Nat
  | .lit (.string bytes) => bytes.length + 1
  | .lit _ => 1
  | .nil => 1
  | .ptr d => uptoBulk d + 1
  | .slice elems spare => uptoBulkAll elems + uptoBulkAll spare + 1
  | .agg parts => uptoBulkAll parts + 1
  | .iface _ d => uptoBulk d + 1
  | .map entries => uptoBulkEntries entries + 1
  | .held _ => 1
def uptoBulkAll {H : Type} : List (DataW H) → Nat
  | [] => 0
  | d :: r => uptoBulk d + uptoBulkAll r
def uptoBulkEntries {H : Type} : List (Lit × DataW H) → Nat
  | [] => 0
  | x :: r => uptoBulkEntry x + uptoBulkEntries r
def uptoBulkEntry {H : Type} : Lit × DataW H → Nat
  | (.string bytes, d) => bytes.length + uptoBulk d + 1
  | (_, d) => uptoBulk d + 1
 end
def uptoSmall : (H : Type) → List (DataW H) → Bool := fun _ ds => decide (uptoBulkAll ds ≤ 1048576)
def OpenSpec.upto (s : _root_.Go.ChangeSpec) : _root_.Go.OpenSpec := { _root_.Go.OpenSpec.ofChange s with cond := some uptoSmall }

/-- 'arenanetlaw34.JournalBytes', WHERE WHAT IT READS IS OF BULK AT MOST 1048576: true; the input reads as it did. -/
def journalBytesUptoRow : OpenClaim := { program := "ytmoajnekegbncaa", sum := "405695e55e6f219d9747ad9fce48e082a631a94ae3f0aa6bd3dc850b56cf6147", func := "arenanet/arenanetlaw34.JournalBytes", spec := "journalBytes", inPlace := ["internal/reflectlite.TypeOf"], unfollowed := true, recurses := true, apart := false, narrowed := true }
def JournalBytesUptoSaid : Prop := journalBytesUptoRow.holds Try.pinned (OpenSpec.upto journalBytesSpec)

/-- 'arenanetlaw34.JournalPrefix', WHERE WHAT IT READS IS OF BULK AT MOST 1048576: true; the input reads as it did. -/
def journalPrefixUptoRow : OpenClaim := { program := "ytmoajnekegbncaa", sum := "405695e55e6f219d9747ad9fce48e082a631a94ae3f0aa6bd3dc850b56cf6147", func := "arenanet/arenanetlaw34.JournalPrefix", spec := "journalPrefix", inPlace := ["internal/reflectlite.TypeOf"], unfollowed := true, recurses := true, apart := false, narrowed := true }
def JournalPrefixUptoSaid : Prop := journalPrefixUptoRow.holds Try.pinned (OpenSpec.upto journalPrefixSpec)

/-- 'arenanetlaw34.JournalCorrupt', WHERE WHAT IT READS IS OF BULK AT MOST 1048576: true; the input reads as it did. -/
def journalCorruptUptoRow : OpenClaim := { program := "ytmoajnekegbncaa", sum := "405695e55e6f219d9747ad9fce48e082a631a94ae3f0aa6bd3dc850b56cf6147", func := "arenanet/arenanetlaw34.JournalCorrupt", spec := "journalCorrupt", inPlace := ["internal/reflectlite.TypeOf"], unfollowed := true, recurses := true, apart := false, narrowed := true }
def JournalCorruptUptoSaid : Prop := journalCorruptUptoRow.holds Try.pinned (OpenSpec.upto journalCorruptSpec)

/-- 'arenanetlaw34.JournalSums', WHERE WHAT IT READS IS OF BULK AT MOST 1048576: true; the input reads as it did. -/
def journalSumsUptoRow : OpenClaim := { program := "ytmoajnekegbncaa", sum := "405695e55e6f219d9747ad9fce48e082a631a94ae3f0aa6bd3dc850b56cf6147", func := "arenanet/arenanetlaw34.JournalSums", spec := "journalSums", inPlace := ["internal/reflectlite.TypeOf"], unfollowed := true, recurses := true, apart := false, narrowed := true }
def JournalSumsUptoSaid : Prop := journalSumsUptoRow.holds Try.pinned (OpenSpec.upto journalSumsSpec)

/-- 'arenanetlaw34.JournalLimits', WHERE WHAT IT READS IS OF BULK AT MOST 1048576: true; the input reads as it did. -/
def journalLimitsUptoRow : OpenClaim := { program := "ytmoajnekegbncaa", sum := "405695e55e6f219d9747ad9fce48e082a631a94ae3f0aa6bd3dc850b56cf6147", func := "arenanet/arenanetlaw34.JournalLimits", spec := "journalLimits", inPlace := ["internal/reflectlite.TypeOf"], unfollowed := true, recurses := true, apart := false, narrowed := true }
def JournalLimitsUptoSaid : Prop := journalLimitsUptoRow.holds Try.pinned (OpenSpec.upto journalLimitsSpec)

/-- 'arenanetlaw34.JournalOwn', WHERE WHAT IT READS IS OF BULK AT MOST 1048576: true; the input reads as it did. -/
def journalOwnUptoRow : OpenClaim := { program := "ytmoajnekegbncaa", sum := "405695e55e6f219d9747ad9fce48e082a631a94ae3f0aa6bd3dc850b56cf6147", func := "arenanet/arenanetlaw34.JournalOwn", spec := "journalOwn", inPlace := ["internal/reflectlite.TypeOf"], unfollowed := true, recurses := true, apart := false, narrowed := true }
def JournalOwnUptoSaid : Prop := journalOwnUptoRow.holds Try.pinned (OpenSpec.upto journalOwnSpec)

/-- 'arenanetlaw34.JournalRecovers', WHERE WHAT IT READS IS OF BULK AT MOST 1048576: true; the input reads as it did. -/
def journalRecoversUptoRow : OpenClaim := { program := "ytmoajnekegbncaa", sum := "405695e55e6f219d9747ad9fce48e082a631a94ae3f0aa6bd3dc850b56cf6147", func := "arenanet/arenanetlaw34.JournalRecovers", spec := "journalRecovers", inPlace := ["internal/reflectlite.TypeOf"], unfollowed := true, recurses := true, apart := false, narrowed := true }
def JournalRecoversUptoSaid : Prop := journalRecoversUptoRow.holds Try.pinned (OpenSpec.upto journalRecoversSpec)

end Rows
end Go.Proofs.Ytmoajnekegbncaa
