/-
  WHAT IS PROVED HERE: the contract of the reference's helper Inputs. No condition but bounds that every machine's lengths meet.
-/
import Derived.Test.YtojmkfhinkmhaaaFlat
namespace Go.Proofs.Ytojmkfhinkmhaaa
set_option linter.unusedVariables false
open Go.ChangeShapes Go.WideShapes Go.ChangeAt Go.RowKit

set_option maxHeartbeats 2000000 in
theorem inputs_any (A : Option Addr) (n c : Nat) (l : List Int) (m : Int) (M : Nat) (w : World) (hm : m = M) (hI : ∀ x ∈ l, -9223372036854775808 ≤ x ∧ x ≤ 9223372036854775807) (rd : Rd w w.heap.size 1 A n (l.map (Value.int .i64))) (hn : n ≤ 9223372036854775807) (hM : M ≤ 1000000) :
    Calls Try.prog 14 #[.slice A n c, .int .i64 m] w (RetSl w 25 3 (min n M) (flat ((l.map inpOf).take M))) := by
  subst hm
  have hll : l.length = n := by have := rd.1; simpa using this
  have RD := Lib.hid rd
  have HL := Lib.hid hll
  clear rd hll
  go_enter Try.func14, Try.ntmps14
  go_wp2
  go_loopw [5, 6] (fun v i wr => ∃ (k : Nat) (A' : Option Addr) (c' : Nat), k ≤ n ∧ k ≤ M ∧ i = .int .i64 k ∧ v = .slice A' k c' ∧ wr.ownsRow w.heap.size 25 3 (.slice A' k c') k (flat ((l.map inpOf).take k)) ∧ k ≤ c' ∧ c' ≤ maxLen ∧ Below w.heap.size w wr) (fun _ i _ => n - (intOf i).toNat)
  case atStart => exact ⟨0, none, 0, by omega, by omega, rfl, rfl, own_nil _ _ _ _, by omega, by simp [maxLen], Below.refl _ _⟩
  case round =>
    obtain ⟨k, A', c', hk, hkM, rfl, rfl, hown, hc3, hc4, hB⟩ := hrel
    by_cases hlt : k < n
    · by_cases hlM : k < M
      · obtain ⟨b, o, hl, rfl, hb, hcell⟩ := (RD.out.below hB (Nat.le_refl _)).openMap hlt
        have hi := hI _ (List.getElem_mem hl)
        have E1 := Lib.hid (take_map_one inpOf l hl)
        obtain ⟨x, hx⟩ : ∃ x, l[k] = x := ⟨_, rfl⟩
        rw [hx] at hcell hi
        have HX := Lib.hid hx
        clear hx
        have OW := Lib.hid hown
        clear hown
        go_wp2_with fail
        refine (of_any x _ hi.1 hi.2).mono ?_
        rintro e w1 ⟨rfl, hb1⟩
        have O1 := Lib.hid (own_below OW.out hb1)
        have hB1 := b_call hB hb1
        have hz1 := hB1.size
        go_wp2_with (at_builtin; refine wpList_app _ rfl (.tmp 18) (.tmp 24) slRow rfl rfl (O1.out.alloc _) rfl (rd_lit w1 _ _ rfl rfl) (by rw [← flat_one]; exact flat_cell _) (k + 1) rfl (by unfold maxLen; omega) (by omega) (by simp; omega) ?_; intro A2 c2 w2 g1 g2 g3 g4 _)
        go_roundw
        case rel => exact ⟨k + 1, A2, c2, by omega, by omega, by go_num, rfl, by rw [E1.out, HX.out, flat_append, flat_one]; exact g3, g1, g2, below_app (b_alloc hB1 _) (O1.out.alloc _) g4 (Nat.le_refl _) (by simp; omega)⟩
        case measure => simp [intOf]; omega
      · obtain rfl : M = k := by omega
        have E1 := Lib.hid (Nat.min_eq_right (by omega : M ≤ n))
        go_wp2
        go_ret
        exact ⟨A', c', by rw [E1.out]; rfl, by rw [E1.out]; exact hc3, hc4, by rw [E1.out]; exact hown, hB⟩
    · obtain rfl : n = k := by omega
      have E1 := Lib.hid (Nat.min_eq_left (by omega : n ≤ M))
      have E2 := Lib.hid (show (l.map inpOf).take n = (l.map inpOf).take M from by rw [List.take_of_length_le (by rw [List.length_map, HL.out]; omega), List.take_of_length_le (by rw [List.length_map, HL.out]; omega)])
      go_wp2
      go_ret
      exact ⟨A', c', by rw [E1.out]; rfl, by rw [E1.out]; exact hc3, hc4, by rw [E1.out, ← E2.out]; exact hown, hB⟩

end Go.Proofs.Ytojmkfhinkmhaaa
