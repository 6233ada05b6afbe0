/-
  WHAT IS PROVED HERE: the contract of the reference's helper Has. No condition but bounds that every machine's lengths meet.
-/
import Derived.Test.YtgelhcgaacnjcaaHlpS
namespace Go.Proofs.Ytgelhcgaacnjcaa
set_option linter.unusedVariables false
open Go.ChangeShapes Go.WideShapes Go.ChangeAt Go.RowKit

set_option maxHeartbeats 1000000 in
theorem has_any (A : Option Addr) (n c : Nat) (l : List Int) (x : Int) (w : World) (hn : n ≤ 1000000000000) (rd : Rd w w.heap.size 1 A n (l.map (Value.int .i64))) :
    Calls Try.prog 30 #[.slice A n c, .int .i64 x] w fun e w' => e = .returned (.bool (decide (x ∈ l))) ∧ w = w' := by
  have hll : l.length = n := by have := rd.1; simpa using this
  have RD := Lib.hid rd
  have HL := Lib.hid hll
  clear rd hll
  go_enter Try.func30, Try.ntmps30
  go_wp2
  go_loop [5] (fun i => ∃ k : Nat, k ≤ n ∧ i = .int .i64 k ∧ Hid (¬ x ∈ l.take k)) (fun i => n - (intOf i).toNat)
  case atStart => exact ⟨0, by omega, rfl, Lib.hid (by simp)⟩
  case round =>
    obtain ⟨k, hk, rfl, hT⟩ := hrel
    by_cases hlt : k < n
    · obtain ⟨b, o, hl, rfl, hb, hcell⟩ := RD.out.openMap hlt
      by_cases he : l[k] = x
      · have hq : (l[k] == x) = true := by simpa using he
        have E1 := Lib.hid (show decide (x ∈ l) = true from by rw [decide_eq_true_iff, ← he]; exact List.getElem_mem hl)
        clear he
        go_wp2
        go_ret
        exact ⟨ret_bool (by rw [E1.out]), rfl⟩
      · have hq : (l[k] == x) = false := by simpa using he
        have E1 := Lib.hid (show ¬ x ∈ l.take (k + 1) from by
          rw [List.take_succ_eq_append_getElem hl]
          intro h
          rcases List.mem_append.1 h with h | h
          · exact hT.out h
          · simp at h
            exact he h.symm)
        clear he
        go_wp2
        go_round
        case rel => exact ⟨k + 1, by omega, by go_num, E1⟩
        case measure => simp [intOf]; omega
    · have E1 := Lib.hid (show decide (x ∈ l) = false from by
        rw [decide_eq_false_iff_not]
        have := hT.out
        rwa [List.take_of_length_le (by rw [HL.out]; omega)] at this)
      go_wp2
      go_ret
      exact ⟨ret_bool (by rw [E1.out]), rfl⟩
end Go.Proofs.Ytgelhcgaacnjcaa
