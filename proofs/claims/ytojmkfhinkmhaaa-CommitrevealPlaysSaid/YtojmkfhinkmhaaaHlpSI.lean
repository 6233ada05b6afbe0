/-
  WHAT IS PROVED HERE: the contract of the helper SameInts. No condition but bounds that every machine's lengths meet.
-/
import Derived.Test.YtojmkfhinkmhaaaHlpS
namespace Go.Proofs.Ytojmkfhinkmhaaa
set_option linter.unusedVariables false
open Go.ChangeShapes Go.WideShapes Go.ChangeAt Go.RowKit

set_option maxHeartbeats 2000000 in
theorem sameints_any (A A' : Option Addr) (n c n' c' : Nat) (l l' : List Int) (w : World) (rd : Rd w w.heap.size 1 A n (l.map (Value.int .i64))) (rd' : Rd w w.heap.size 1 A' n' (l'.map (Value.int .i64))) (hn : n ≤ 1000000000000) (hn' : n' ≤ 1000000000000) :
    Calls Try.prog 21 #[.slice A n c, .slice A' n' c'] w fun e w' => e = .returned (.bool (decide (l = l'))) ∧ Below w.heap.size w w' := by
  have hll : l.length = n := by have := rd.1; simpa using this
  have hll' : l'.length = n' := by have := rd'.1; simpa using this
  by_cases hnn : n = n'
  · subst hnn
    have RD := Lib.hid rd
    have RD' := Lib.hid rd'
    have HL := Lib.hid hll
    have HL' := Lib.hid hll'
    clear rd rd' hll hll'
    go_enter Try.func21, Try.ntmps21
    go_wp2
    go_loopw [5] (fun i wr => ∃ k : Nat, k ≤ n ∧ i = .int .i64 k ∧ Hid (l.take k = l'.take k) ∧ Below w.heap.size w wr) (fun i _ => n - (intOf i).toNat)
    case atStart => exact ⟨0, by omega, rfl, rfl, Below.refl _ _⟩
    case round =>
      obtain ⟨k, hk, rfl, hT, hB⟩ := hrel
      by_cases hlt : k < n
      · obtain ⟨b, o, hl, rfl, hb, hcell⟩ := (RD.out.below hB (Nat.le_refl _)).openMap hlt
        obtain ⟨b', o', hl', rfl, hb', hcell'⟩ := (RD'.out.below hB (Nat.le_refl _)).openMap hlt
        by_cases he : l[k] = l'[k]
        · have E1 := Lib.hid (take_eq_succ hT.out hl hl' he)
          obtain ⟨x, hx⟩ : ∃ x, l[k] = x := ⟨_, rfl⟩
          rw [← he, hx] at hcell'
          rw [hx] at hcell
          clear he hx
          go_wp2_with fail
          go_quiet (fail)
          go_wp2
          go_roundw
          case rel => exact ⟨k + 1, by omega, by go_num, E1.out, below_drewN hB _⟩
          case measure => simp [intOf]; omega
        · have hq : (l[k] != l'[k]) = true := by simpa using he
          have E1 := Lib.hid (show decide (l = l') = false from by
            rw [decide_eq_false_iff_not]
            intro e
            subst e
            exact he rfl)
          clear he
          go_wp2_with fail
          go_quiet (fail)
          go_wp2
          go_ret
          exact ⟨ret_bool (by rw [E1.out]), below_drewN hB _⟩
      · have E1 := Lib.hid (show decide (l = l') = true from by
          rw [decide_eq_true_iff]
          have h := hT.out
          rw [List.take_of_length_le (by rw [HL.out]; omega), List.take_of_length_le (by rw [HL'.out]; omega)] at h
          exact h)
        go_wp2
        go_ret
        exact ⟨ret_bool (by rw [E1.out]), hB⟩
  · have E1 := Lib.hid (show decide (l = l') = false from by
      rw [decide_eq_false_iff_not]
      intro e
      subst e
      omega)
    have hq : ((n : Int) != (n' : Int)) = true := by
      rw [bne_iff_ne]
      omega
    clear hnn rd rd' hll hll'
    go_enter Try.func21, Try.ntmps21
    go_wp2
    go_ret
    exact ⟨ret_bool (by rw [E1.out]), Below.refl _ _⟩
end Go.Proofs.Ytojmkfhinkmhaaa
