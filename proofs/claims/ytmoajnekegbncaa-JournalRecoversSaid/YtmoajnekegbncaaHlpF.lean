/-
  WHAT IS PROVED HERE: the contract of the helper Few. No condition but bounds that every machine's lengths meet.
-/
import Derived.Test.YtmoajnekegbncaaHlpS
namespace Go.Proofs.Ytmoajnekegbncaa
set_option linter.unusedVariables false
open Go.ChangeShapes Go.WideShapes Go.ChangeAt Go.RowKit

theorem slBytes : SlT Try.prog 27 5 1 1 := .mk' (z := .int .u8 0) Try.underlying27 (by kernel_rfl) rfl (by omega)

set_option maxHeartbeats 1000000 in
theorem few_any (A : Option Addr) (n c : Nat) (l : List Int) (m : Int) (k : Nat) (w : World) (hm : m = k) (rd : Rd w w.heap.size 1 A n (l.map (Value.int .u8))) (hn : n ≤ c) (hc : c ≤ maxLen) (hk : k ≤ 1000000) :
    Calls Try.prog 18 #[.slice A n c, .int .i64 m] w (RetSl w 5 1 (min n k) ((l.take k).map (Value.int .u8))) := by
  subst hm
  have hll : l.length = n := by have := rd.1; simpa using this
  unfold maxLen at hc
  by_cases hnk : n ≤ k
  · have E1 := Lib.hid (Nat.min_eq_left hnk)
    have E2 := Lib.hid (List.take_of_length_le (by omega) : l.take k = l)
    have RD := Lib.hid rd
    clear rd hll
    have hsl := fun (W : World) (K : Nat) (hK : K ≤ c) => run_slice_to slBytes A n c .i64 (K : Int) (by omega) (by omega) W
    simp only [Int.toNat_natCast] at hsl
    go_enter Try.func18, Try.ntmps18
    go_wp2_with (at_builtin; refine wpList_app _ rfl (.tmp 6) (.tmp 12) slBytes rfl rfl (own_nil _ w.heap.size _ _) (A := A) (m := n) (c := c) rfl RD.out (ints_one _ _) n (Nat.zero_add _) (by unfold maxLen; omega) (by omega) (Nat.le_refl _) ?_; intro A' c' w' g1 g2 g3 g4 _)
    go_ret
    exact ⟨A', c', by rw [E1.out]; rfl, by rw [E1.out]; exact g1, g2, by rw [E1.out, E2.out]; exact g3, below_app (Below.refl _ _) (own_nil _ w.heap.size 5 1) g4 (Nat.le_refl _) (Nat.le_refl _)⟩
  · have E1 := Lib.hid (Nat.min_eq_right (by omega : k ≤ n))
    have RD := Lib.hid (rd.take (by omega : k ≤ n))
    clear rd hll
    have hsl := fun (W : World) (K : Nat) (hK : K ≤ c) => run_slice_to slBytes A n c .i64 (K : Int) (by omega) (by omega) W
    simp only [Int.toNat_natCast] at hsl
    go_enter Try.func18, Try.ntmps18
    go_wp2_with (at_builtin; refine wpList_app _ rfl (.tmp 6) (.tmp 12) slBytes rfl rfl (own_nil _ w.heap.size _ _) (A := A) (m := k) (c := c) rfl RD.out (by rw [← List.map_take]; exact ints_one _ _) k (Nat.zero_add _) (by unfold maxLen; omega) (by omega) (Nat.le_refl _) ?_; intro A' c' w' g1 g2 g3 g4 _)
    go_ret
    exact ⟨A', c', by rw [E1.out]; rfl, by rw [E1.out]; exact g1, g2, by rw [E1.out, List.map_take]; simpa using g3, below_app (Below.refl _ _) (own_nil _ w.heap.size 5 1) g4 (Nat.le_refl _) (Nat.le_refl _)⟩
end Go.Proofs.Ytmoajnekegbncaa
