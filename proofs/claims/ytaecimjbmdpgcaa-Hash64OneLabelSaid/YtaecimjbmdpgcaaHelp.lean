/-
  WHAT IS PROVED HERE: contracts of the helpers of the references (Around, Ints, Few, Short, SameInts, SameBytes). No condition but bounds that every machine's lengths meet.
-/
import Derived.Test.YtaecimjbmdpgcaaApp
import Derived.Test.YtaecimjbmdpgcaaAround
namespace Go.Proofs.Ytaecimjbmdpgcaa
set_option linter.unusedVariables false
open Go.ChangeShapes Go.WideShapes Go.ChangeAt Go.RowKit

/-- A new slice comes back, and old memory is as it was. -/
def RetSl (w : World) (E : TypeId) (sz N : Nat) (xs : List Value) (e : Ending) (w' : World) : Prop :=
  ∃ A c, e = .returned (.slice A N c) ∧ N ≤ c ∧ c ≤ maxLen ∧ w'.ownsRow w.heap.size E sz (.slice A N c) N xs ∧ Below w.heap.size w w'

theorem slInts : SlT Try.prog 22 3 1 8 := .mk' (z := .int .i64 0) Try.underlying22 (by kernel_rfl) rfl (by omega)
theorem slBytes : SlT Try.prog 30 5 1 1 := .mk' (z := .int .u8 0) Try.underlying30 (by kernel_rfl) rfl (by omega)

set_option maxHeartbeats 1000000 in
theorem ints_any (A : Option Addr) (n c : Nat) (l : List Int) (m : Int) (k : Nat) (w : World) (hm : m = k) (rd : Rd w w.heap.size 1 A n (l.map (Value.int .i64))) (hn : n ≤ c) (hc : c ≤ maxLen) (hk : k ≤ 1000000) :
    Calls Try.prog 12 #[.slice A n c, .int .i64 m] w (RetSl w 3 1 (min n k) ((l.take k).map (Value.int .i64))) := by
  subst hm
  have hll : l.length = n := by have := rd.1; simpa using this
  unfold maxLen at hc
  by_cases hnk : n ≤ k
  · have E1 := Lib.hid (Nat.min_eq_left hnk)
    have E2 := Lib.hid (List.take_of_length_le (by omega) : l.take k = l)
    have RD := Lib.hid rd
    clear rd hll
    have hsl := fun (W : World) (K : Nat) (hK : K ≤ c) => run_slice_to slInts A n c .i64 (K : Int) (by omega) (by omega) W
    simp only [Int.toNat_natCast] at hsl
    go_enter Try.func12, Try.ntmps12
    go_wp2_with (at_builtin; refine wpList_app _ rfl (.tmp 6) (.tmp 12) slInts rfl rfl (own_nil _ w.heap.size _ _) (A := A) (m := n) (c := c) rfl RD.out (ints_one _ _) n (Nat.zero_add _) (by unfold maxLen; omega) (by omega) (Nat.le_refl _) ?_; intro A' c' w' g1 g2 g3 g4 _)
    go_ret
    exact ⟨A', c', by rw [E1.out]; rfl, by rw [E1.out]; exact g1, g2, by rw [E1.out, E2.out]; exact g3, below_app (Below.refl _ _) (own_nil _ w.heap.size 3 1) g4 (Nat.le_refl _) (Nat.le_refl _)⟩
  · have E1 := Lib.hid (Nat.min_eq_right (by omega : k ≤ n))
    have RD := Lib.hid (rd.take (by omega : k ≤ n))
    clear rd hll
    have hsl := fun (W : World) (K : Nat) (hK : K ≤ c) => run_slice_to slInts A n c .i64 (K : Int) (by omega) (by omega) W
    simp only [Int.toNat_natCast] at hsl
    go_enter Try.func12, Try.ntmps12
    go_wp2_with (at_builtin; refine wpList_app _ rfl (.tmp 6) (.tmp 12) slInts rfl rfl (own_nil _ w.heap.size _ _) (A := A) (m := k) (c := c) rfl RD.out (by rw [← List.map_take]; exact ints_one _ _) k (Nat.zero_add _) (by unfold maxLen; omega) (by omega) (Nat.le_refl _) ?_; intro A' c' w' g1 g2 g3 g4 _)
    go_ret
    exact ⟨A', c', by rw [E1.out]; rfl, by rw [E1.out]; exact g1, g2, by rw [E1.out, List.map_take]; simpa using g3, below_app (Below.refl _ _) (own_nil _ w.heap.size 3 1) g4 (Nat.le_refl _) (Nat.le_refl _)⟩
set_option maxHeartbeats 1000000 in
theorem few_any (A : Option Addr) (n c : Nat) (l : List Int) (m : Int) (k : Nat) (w : World) (hm : m = k) (rd : Rd w w.heap.size 1 A n (l.map (Value.int .u8))) (hn : n ≤ c) (hc : c ≤ maxLen) (hk : k ≤ 1000000) :
    Calls Try.prog 16 #[.slice A n c, .int .i64 m] w (RetSl w 5 1 (min n k) ((l.take k).map (Value.int .u8))) := by
  subst hm
  have hll : l.length = n := by have := rd.1; simpa using this
  unfold maxLen at hc
  by_cases hnk : n ≤ k
  · have E1 := Lib.hid (Nat.min_eq_left hnk)
    have E2 := Lib.hid (List.take_of_length_le (by omega) : l.take k = l)
    have RD := Lib.hid rd
    clear rd hll
    have hsl := fun (W : World) (K : Nat) (hK : K ≤ c) => run_slice_to slBytes A n c .i64 (K : Int) (by omega) (by omega) W
    simp only [Int.toNat_natCast] at hsl
    go_enter Try.func16, Try.ntmps16
    go_wp2_with (at_builtin; refine wpList_app _ rfl (.tmp 6) (.tmp 12) slBytes rfl rfl (own_nil _ w.heap.size _ _) (A := A) (m := n) (c := c) rfl RD.out (ints_one _ _) n (Nat.zero_add _) (by unfold maxLen; omega) (by omega) (Nat.le_refl _) ?_; intro A' c' w' g1 g2 g3 g4 _)
    go_ret
    exact ⟨A', c', by rw [E1.out]; rfl, by rw [E1.out]; exact g1, g2, by rw [E1.out, E2.out]; exact g3, below_app (Below.refl _ _) (own_nil _ w.heap.size 5 1) g4 (Nat.le_refl _) (Nat.le_refl _)⟩
  · have E1 := Lib.hid (Nat.min_eq_right (by omega : k ≤ n))
    have RD := Lib.hid (rd.take (by omega : k ≤ n))
    clear rd hll
    have hsl := fun (W : World) (K : Nat) (hK : K ≤ c) => run_slice_to slBytes A n c .i64 (K : Int) (by omega) (by omega) W
    simp only [Int.toNat_natCast] at hsl
    go_enter Try.func16, Try.ntmps16
    go_wp2_with (at_builtin; refine wpList_app _ rfl (.tmp 6) (.tmp 12) slBytes rfl rfl (own_nil _ w.heap.size _ _) (A := A) (m := k) (c := c) rfl RD.out (by rw [← List.map_take]; exact ints_one _ _) k (Nat.zero_add _) (by unfold maxLen; omega) (by omega) (Nat.le_refl _) ?_; intro A' c' w' g1 g2 g3 g4 _)
    go_ret
    exact ⟨A', c', by rw [E1.out]; rfl, by rw [E1.out]; exact g1, g2, by rw [E1.out, List.map_take]; simpa using g3, below_app (Below.refl _ _) (own_nil _ w.heap.size 5 1) g4 (Nat.le_refl _) (Nat.le_refl _)⟩

theorem take_eq_succ {l l' : List Int} {k : Nat} (h : l.take k = l'.take k) (h1 : k < l.length) (h2 : k < l'.length) (he : l[k] = l'[k]) : l.take (k + 1) = l'.take (k + 1) := by
  rw [List.take_succ_eq_append_getElem h1, List.take_succ_eq_append_getElem h2, h, he]

set_option maxHeartbeats 2000000 in
theorem sameints_any (A A' : Option Addr) (n c n' c' : Nat) (l l' : List Int) (w : World) (rd : Rd w w.heap.size 1 A n (l.map (Value.int .i64))) (rd' : Rd w w.heap.size 1 A' n' (l'.map (Value.int .i64))) (hn : n ≤ 1000000000000) (hn' : n' ≤ 1000000000000) :
    Calls Try.prog 24 #[.slice A n c, .slice A' n' c'] w fun e w' => e = .returned (.bool (decide (l = l'))) ∧ Below w.heap.size w w' := by
  have hll : l.length = n := by have := rd.1; simpa using this
  have hll' : l'.length = n' := by have := rd'.1; simpa using this
  by_cases hnn : n = n'
  · subst hnn
    have RD := Lib.hid rd
    have RD' := Lib.hid rd'
    have HL := Lib.hid hll
    have HL' := Lib.hid hll'
    clear rd rd' hll hll'
    go_enter Try.func24, Try.ntmps24
    go_wp2
    go_loopw [5] (fun i wr => ∃ k : Nat, k ≤ n ∧ i = .int .i64 k ∧ Hid (l.take k = l'.take k) ∧ Below w.heap.size w wr) (fun i _ => n - (intOf i).toNat)
    case atStart => exact ⟨0, by omega, rfl, rfl, Below.refl _ _⟩
    case round =>
      obtain ⟨k, hk, rfl, hT, hB⟩ := hrel
      by_cases hlt : k < n
      · obtain ⟨b, o, hl, rfl, hb, hcell⟩ := (RD.out.below hB (Nat.le_refl _)).openMap hlt
        obtain ⟨b', o', hl', rfl, hb', hcell'⟩ := (RD'.out.below hB (Nat.le_refl _)).openMap hlt
        by_cases he : l[k] = l'[k]
        · have E1 := Lib.hid (take_eq_succ hT.out hl hl' he)
          obtain ⟨x, hx⟩ : ∃ x, l[k] = x := ⟨_, rfl⟩
          rw [← he, hx] at hcell'
          rw [hx] at hcell
          clear he hx
          go_wp2_with fail
          go_quiet (fail)
          go_wp2
          go_roundw
          case rel => exact ⟨k + 1, by omega, by go_num, E1.out, below_drewN hB _⟩
          case measure => simp [intOf]; omega
        · have hq : (l[k] != l'[k]) = true := by simpa using he
          have E1 := Lib.hid (show decide (l = l') = false from by
            rw [decide_eq_false_iff_not]
            intro e
            subst e
            exact he rfl)
          clear he
          go_wp2_with fail
          go_quiet (fail)
          go_wp2
          go_ret
          exact ⟨ret_bool (by rw [E1.out]), below_drewN hB _⟩
      · have E1 := Lib.hid (show decide (l = l') = true from by
          rw [decide_eq_true_iff]
          have h := hT.out
          rw [List.take_of_length_le (by rw [HL.out]; omega), List.take_of_length_le (by rw [HL'.out]; omega)] at h
          exact h)
        go_wp2
        go_ret
        exact ⟨ret_bool (by rw [E1.out]), hB⟩
  · have E1 := Lib.hid (show decide (l = l') = false from by
      rw [decide_eq_false_iff_not]
      intro e
      subst e
      omega)
    have hq : ((n : Int) != (n' : Int)) = true := by
      rw [bne_iff_ne]
      omega
    clear hnn rd rd' hll hll'
    go_enter Try.func24, Try.ntmps24
    go_wp2
    go_ret
    exact ⟨ret_bool (by rw [E1.out]), Below.refl _ _⟩

set_option maxHeartbeats 2000000 in
theorem samebytes_any (A A' : Option Addr) (n c n' c' : Nat) (l l' : List Int) (w : World) (rd : Rd w w.heap.size 1 A n (l.map (Value.int .u8))) (rd' : Rd w w.heap.size 1 A' n' (l'.map (Value.int .u8))) (hn : n ≤ 1000000000000) (hn' : n' ≤ 1000000000000) :
    Calls Try.prog 22 #[.slice A n c, .slice A' n' c'] w fun e w' => e = .returned (.bool (decide (l = l'))) ∧ Below w.heap.size w w' := by
  have hll : l.length = n := by have := rd.1; simpa using this
  have hll' : l'.length = n' := by have := rd'.1; simpa using this
  by_cases hnn : n = n'
  · subst hnn
    have RD := Lib.hid rd
    have RD' := Lib.hid rd'
    have HL := Lib.hid hll
    have HL' := Lib.hid hll'
    clear rd rd' hll hll'
    go_enter Try.func22, Try.ntmps22
    go_wp2
    go_loopw [5] (fun i wr => ∃ k : Nat, k ≤ n ∧ i = .int .i64 k ∧ Hid (l.take k = l'.take k) ∧ Below w.heap.size w wr) (fun i _ => n - (intOf i).toNat)
    case atStart => exact ⟨0, by omega, rfl, rfl, Below.refl _ _⟩
    case round =>
      obtain ⟨k, hk, rfl, hT, hB⟩ := hrel
      by_cases hlt : k < n
      · obtain ⟨b, o, hl, rfl, hb, hcell⟩ := (RD.out.below hB (Nat.le_refl _)).openMap hlt
        obtain ⟨b', o', hl', rfl, hb', hcell'⟩ := (RD'.out.below hB (Nat.le_refl _)).openMap hlt
        by_cases he : l[k] = l'[k]
        · have E1 := Lib.hid (take_eq_succ hT.out hl hl' he)
          obtain ⟨x, hx⟩ : ∃ x, l[k] = x := ⟨_, rfl⟩
          rw [← he, hx] at hcell'
          rw [hx] at hcell
          clear he hx
          go_wp2_with fail
          go_quiet (fail)
          go_wp2
          go_roundw
          case rel => exact ⟨k + 1, by omega, by go_num, E1.out, below_drewN hB _⟩
          case measure => simp [intOf]; omega
        · have hq : (l[k] != l'[k]) = true := by simpa using he
          have E1 := Lib.hid (show decide (l = l') = false from by
            rw [decide_eq_false_iff_not]
            intro e
            subst e
            exact he rfl)
          clear he
          go_wp2_with fail
          go_quiet (fail)
          go_wp2
          go_ret
          exact ⟨ret_bool (by rw [E1.out]), below_drewN hB _⟩
      · have E1 := Lib.hid (show decide (l = l') = true from by
          rw [decide_eq_true_iff]
          have h := hT.out
          rw [List.take_of_length_le (by rw [HL.out]; omega), List.take_of_length_le (by rw [HL'.out]; omega)] at h
          exact h)
        go_wp2
        go_ret
        exact ⟨ret_bool (by rw [E1.out]), hB⟩
  · have E1 := Lib.hid (show decide (l = l') = false from by
      rw [decide_eq_false_iff_not]
      intro e
      subst e
      omega)
    have hq : ((n : Int) != (n' : Int)) = true := by
      rw [bne_iff_ne]
      omega
    clear hnn rd rd' hll hll'
    go_enter Try.func22, Try.ntmps22
    go_wp2
    go_ret
    exact ⟨ret_bool (by rw [E1.out]), Below.refl _ _⟩
end Go.Proofs.Ytaecimjbmdpgcaa
