/-
  WHAT IS PROVED HERE: the walks of the laws MerkleRoots and MerkleComplete. No condition but what comes in lies in memory.
-/
import Derived.Test.YtgelhcgaacnjcaaMkM
namespace Go.Proofs.Ytgelhcgaacnjcaa
set_option linter.unusedVariables false
open Go.ChangeShapes Go.WideShapes Go.ChangeAt Go.RowKit

set_option maxHeartbeats 1000000 in
theorem mroot_any (A : Option Addr) (n c : Nat) (cs : List Int) (w : World) (rd : Rd w w.heap.size 1 A n (cs.map (Value.int .i64))) (hn : n ≤ 1000) :
    Calls Try.prog 22 #[.slice A n c] w fun e w' => e = .returned (.int .u64 (nV cs (hgt cs.length) 0)) ∧ Below w.heap.size w w' := by
  have RD := Lib.hid rd
  clear rd
  go_enter Try.func22, Try.ntmps22
  go_wp2_with fail
  refine (new_any A n c cs _ RD.out hn).mono ?_
  rintro e w1 ⟨g, bc, bn, f, rfl, T, _, hb1⟩
  have HT := Lib.hid T
  clear T
  go_wp2_with fail
  refine (troot_any HT.out).mono ?_
  rintro e w_ ⟨rfl, rfl⟩
  go_wp2
  go_ret
  exact ⟨rfl, hb1⟩
theorem take20 {l : List Int} {n : Nat} (h : l.length = n) : (l.take 20).length = min n 20 := by rw [List.length_take, h, Nat.min_comm]
set_option maxHeartbeats 2000000 in
theorem roots_walk (A : Option Addr) (n c : Nat) (l : List Int) (i : Int) (w : World) (rd : Rd w w.heap.size 1 A n (l.map (Value.int .i64))) (hn : n ≤ c) (hc : c ≤ maxLen) (hi : I64 i) :
    Calls Try.prog 5 #[.slice A n c, .int .i64 i] w fun e w' => e = .returned (.bool true) ∧ Below w.heap.size w w' := by
  have hll : l.length = n := by have := rd.1; simpa using this
  have HL := Lib.hid (take20 hll)
  have RD := Lib.hid rd
  have HN := Lib.hid hn
  have HC := Lib.hid hc
  obtain ⟨i1, i2⟩ := hi
  clear rd hn hc hll
  go_enter Try.func5, Try.ntmps5
  go_wp2_with fail
  refine (cells_any A n c l _ RD.out HN.out HC.out).mono ?_
  rintro e w1 ⟨A1, c1, rfl, _, _, o1, hb1⟩
  obtain ⟨N, hN⟩ : ∃ N, min n 20 = N := ⟨_, rfl⟩
  obtain ⟨cs, hcs⟩ : ∃ cs, l.take 20 = cs := ⟨_, rfl⟩
  have hN20 : N ≤ 20 := by rw [← hN]; exact Nat.min_le_right _ _
  rw [hN, hcs] at o1 HL
  rw [hN]
  have R1 := Lib.hid (rd_own o1)
  clear o1 hN hcs
  go_wp2_with fail
  refine (new_any A1 N c1 cs _ R1.out (by omega)).mono ?_
  rintro e w2 ⟨g, bc, bn, f, rfl, T, _, hb2⟩
  have T2 := Lib.hid T
  have R2 := Lib.hid (rd_step R1.out hb2)
  clear T
  go_wp2_with fail
  refine (around_any i 22 _ i1 i2 (by omega) (by omega)).mono ?_
  rintro e w_ ⟨rfl, rfl⟩
  have hk := around_bd i 22 (by omega)
  obtain ⟨k, hk0⟩ : ∃ k, around i 22 = k := ⟨_, rfl⟩
  rw [hk0] at hk ⊢
  clear hk0
  go_wp2_with fail
  refine (troot_any T2.out).mono ?_
  rintro e w_ ⟨rfl, rfl⟩
  go_wp2_with fail
  refine (rroot_any A1 N c1 cs _ R2.out (by omega)).mono ?_
  rintro e w3 ⟨rfl, hb3⟩
  have T3 := Lib.hid (T2.out.call hb3)
  have R3 := Lib.hid (rd_step R2.out hb3)
  obtain ⟨r, hr⟩ : ∃ r, nV cs (hgt cs.length) 0 = r := ⟨_, rfl⟩
  have HR := Lib.hid hr
  rw [hr]
  have q1 : (r != r) = false := bne_self_eq_false r
  clear hr
  go_wp2_with fail
  refine (mroot_any A1 N c1 cs _ R3.out (by omega)).mono ?_
  rintro e w4 ⟨rfl, hb4⟩
  rw [HR.out]
  have T4 := Lib.hid (T3.out.call hb4)
  have R4 := Lib.hid (rd_step R3.out hb4)
  go_wp2_with fail
  refine (troot_any T4.out).mono ?_
  rintro e w_ ⟨rfl, rfl⟩
  rw [HR.out]
  have HP := Lib.hid (fun (x : Int) (w : World) (H : Tr w g bc bn cs f) => prove_any g bc bn cs f x w H)
  have HRP := Lib.hid (fun (x : Int) (w : World) (R : Rd w w.heap.size 1 A1 N (cs.map (Value.int .i64))) => rprove_any A1 N c1 cs x w R (by omega))
  have hpl : ∀ x, (lfOf cs x).2.2.length ≤ 1000000 := by
    intro x
    unfold lfOf
    split
    · simp only [prfV_len, List.length_range]
      have := hgt_min (n := cs.length) (j := 5) (by rw [HL.out]; omega)
      omega
    · simp
  have HPL := Lib.hid hpl
  clear hpl
  have hkk : IntKind.i64.wrap (k - 1) = k - 1 := IntWalk.i64_in _ (by omega)
  go_wp2_with fail
  refine (HP.out (k - 1) _ T4.out).mono ?_
  rintro e w5 ⟨A5, c5, rfl, o5, _, _, hb5⟩
  have S5 := Lib.hid (rd_own o5)
  have T5 := Lib.hid (T4.out.call hb5)
  have R5 := Lib.hid (rd_step R4.out hb5)
  clear o5
  go_wp2_with fail
  refine (HRP.out (k - 1) _ R5.out).mono ?_
  rintro e w6 ⟨A6, c6, rfl, o6, _, _, hb6⟩
  have S6 := Lib.hid (rd_own o6)
  have S5 := Lib.hid (rd_step S5.out hb6)
  have T6 := Lib.hid (T5.out.call hb6)
  have R6 := Lib.hid (rd_step R5.out hb6)
  clear o6
  go_wp2_with fail
  refine (same_any _ _ A5 _ c5 _ _ _ A6 _ c6 _ _ S5.out S6.out (HPL.out _)).mono ?_
  rintro e w7 ⟨rfl, hb7⟩
  have T7 := Lib.hid (T6.out.call hb7)
  have R7 := Lib.hid (rd_step R6.out hb7)
  rw [decide_eq_true (show ((lfOf cs (k - 1)).1, (lfOf cs (k - 1)).2.1, (lfOf cs (k - 1)).2.2) = ((lfOf cs (k - 1)).1, (lfOf cs (k - 1)).2.1, (lfOf cs (k - 1)).2.2) from rfl)]
  go_wp2_with fail
  refine (HP.out i _ T7.out).mono ?_
  rintro e w8 ⟨A8, c8, rfl, o8, _, _, hb8⟩
  have S8 := Lib.hid (rd_own o8)
  have R8 := Lib.hid (rd_step R7.out hb8)
  clear o8
  go_wp2_with fail
  refine (HRP.out i _ R8.out).mono ?_
  rintro e w9 ⟨A9, c9, rfl, o9, _, _, hb9⟩
  have S9 := Lib.hid (rd_own o9)
  have S8 := Lib.hid (rd_step S8.out hb9)
  clear o9
  go_wp2_with fail
  refine (same_any _ _ A8 _ c8 _ _ _ A9 _ c9 _ _ S8.out S9.out (HPL.out _)).mono ?_
  rintro e w10 ⟨rfl, hb10⟩
  rw [decide_eq_true (show ((lfOf cs i).1, (lfOf cs i).2.1, (lfOf cs i).2.2) = ((lfOf cs i).1, (lfOf cs i).2.1, (lfOf cs i).2.2) from rfl)]
  go_wp2_with fail
  refine (lives_any _).mono ?_
  rintro e w11 ⟨rfl, hb11⟩
  go_wp2
  go_ret
  exact ⟨rfl, by (repeat (first | (with_reducible exact Below.refl _ _) | (with_reducible assumption) | (with_reducible refine b_drew ?_) | (with_reducible refine b_drewN ?_ _) | (with_reducible refine b_alloc ?_ _) | ((with_reducible refine b_set ?_ ?_ _); rotate_left; (focus (first | omega | (simp; done) | (simp; omega) | (simp at *; omega)))) | (with_reducible refine b_call ?_ (by with_reducible assumption))))⟩
end Go.Proofs.Ytgelhcgaacnjcaa
