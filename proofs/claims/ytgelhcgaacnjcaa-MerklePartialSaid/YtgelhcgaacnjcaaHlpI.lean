/-
  WHAT IS PROVED HERE: the contract of the helper Ints. No condition but bounds that every machine's lengths meet.
-/
import Derived.Test.YtgelhcgaacnjcaaHlpS
namespace Go.Proofs.Ytgelhcgaacnjcaa
set_option linter.unusedVariables false
open Go.ChangeShapes Go.WideShapes Go.ChangeAt Go.RowKit

theorem slInts : SlT Try.prog 26 3 1 8 := .mk' (z := .int .i64 0) Try.underlying26 (by kernel_rfl) rfl (by omega)
set_option maxHeartbeats 1000000 in
theorem ints_any (A : Option Addr) (n c : Nat) (l : List Int) (m : Int) (k : Nat) (w : World) (hm : m = k) (rd : Rd w w.heap.size 1 A n (l.map (Value.int .i64))) (hn : n ≤ c) (hc : c ≤ maxLen) (hk : k ≤ 1000000) :
    Calls Try.prog 32 #[.slice A n c, .int .i64 m] w (RetSl w 3 1 (min n k) ((l.take k).map (Value.int .i64))) := by
  subst hm
  have hll : l.length = n := by have := rd.1; simpa using this
  unfold maxLen at hc
  by_cases hnk : n ≤ k
  · have E1 := Lib.hid (Nat.min_eq_left hnk)
    have E2 := Lib.hid (List.take_of_length_le (by omega) : l.take k = l)
    have RD := Lib.hid rd
    clear rd hll
    have hsl := fun (W : World) (K : Nat) (hK : K ≤ c) => run_slice_to slInts A n c .i64 (K : Int) (by omega) (by omega) W
    simp only [Int.toNat_natCast] at hsl
    go_enter Try.func32, Try.ntmps32
    go_wp2_with (at_builtin; refine wpList_app _ rfl (.tmp 6) (.tmp 12) slInts rfl rfl (own_nil _ w.heap.size _ _) (A := A) (m := n) (c := c) rfl RD.out (ints_one _ _) n (Nat.zero_add _) (by unfold maxLen; omega) (by omega) (Nat.le_refl _) ?_; intro A' c' w' g1 g2 g3 g4 _)
    go_ret
    exact ⟨A', c', by rw [E1.out]; rfl, by rw [E1.out]; exact g1, g2, by rw [E1.out, E2.out]; exact g3, below_app (Below.refl _ _) (own_nil _ w.heap.size 3 1) g4 (Nat.le_refl _) (Nat.le_refl _)⟩
  · have E1 := Lib.hid (Nat.min_eq_right (by omega : k ≤ n))
    have RD := Lib.hid (rd.take (by omega : k ≤ n))
    clear rd hll
    have hsl := fun (W : World) (K : Nat) (hK : K ≤ c) => run_slice_to slInts A n c .i64 (K : Int) (by omega) (by omega) W
    simp only [Int.toNat_natCast] at hsl
    go_enter Try.func32, Try.ntmps32
    go_wp2_with (at_builtin; refine wpList_app _ rfl (.tmp 6) (.tmp 12) slInts rfl rfl (own_nil _ w.heap.size _ _) (A := A) (m := k) (c := c) rfl RD.out (by rw [← List.map_take]; exact ints_one _ _) k (Nat.zero_add _) (by unfold maxLen; omega) (by omega) (Nat.le_refl _) ?_; intro A' c' w' g1 g2 g3 g4 _)
    go_ret
    exact ⟨A', c', by rw [E1.out]; rfl, by rw [E1.out]; exact g1, g2, by rw [E1.out, List.map_take]; simpa using g3, below_app (Below.refl _ _) (own_nil _ w.heap.size 3 1) g4 (Nat.le_refl _) (Nat.le_refl _)⟩
end Go.Proofs.Ytgelhcgaacnjcaa
