/-
  WHAT IS PROVED HERE: contracts of package merkle's height, leafHash, join, sibling. No condition beyond what each theorem states.
-/
import Derived.Test.YtgelhcgaacnjcaaMkP
import Derived.Test.YtgelhcgaacnjcaaAny
import Derived.Shelf.Strconv.Itoa0
import Derived.Lib.ItoaNum
namespace Go.Proofs.Ytgelhcgaacnjcaa
set_option linter.unusedVariables false
open Go.Shelf
open Go.ChangeShapes Go.WideShapes Go.ChangeAt Go.RowKit

/-- the numbers of math/bits.Len64 and of its types here, by those of the shelf -/
def bitsRen : Go.Shelf.Ren := ⟨fun n => if n = 129 then 55 else 0, fun n => if n = 4 then 4 else if n = 5 then 5 else if n = 9 then 9 else if n = 46 then 81 else if n = 53 then 22 else 3, fun n => n⟩
theorem bitsLaid : Lays.n129 Try.prog bitsRen :=
  { mixed := by kernel_rfl
    f129 := by kernel_rfl
    t3 := by kernel_rfl
    a3 := fun _ => by kernel_rfl
    z3 := fun _ => by kernel_rfl
    v3 := fun _ => by kernel_rfl
    t4 := by kernel_rfl
    a4 := fun _ => by kernel_rfl
    z4 := fun _ => by kernel_rfl
    v4 := fun _ => by kernel_rfl
    t5 := by kernel_rfl
    a5 := fun _ => by kernel_rfl
    z5 := fun _ => by kernel_rfl
    v5 := fun _ => by kernel_rfl
    t9 := by kernel_rfl
    a9 := fun _ => by kernel_rfl
    z9 := fun _ => by kernel_rfl
    v9 := fun _ => by kernel_rfl
    t46 := by kernel_rfl
    a46 := fun _ => by kernel_rfl
    z46 := fun _ => by kernel_rfl
    v46 := fun _ => by kernel_rfl
    t53 := by kernel_rfl
    a53 := fun _ => by kernel_rfl
    z53 := fun _ => by kernel_rfl
    v53 := fun _ => by kernel_rfl }
theorem bitLen_bl {x : Nat} (h : x < 65536) : Lib.bitLen x = bl x := by
  by_cases h0 : x = 0
  · subst h0; rfl
  · obtain ⟨h1, h2, h3⟩ := Lib.bitLenAux_bounds 64 x (by omega) h0
    obtain ⟨j, hj⟩ : ∃ j, Lib.bitLenAux 64 x = j + 1 := ⟨Lib.bitLenAux 64 x - 1, by omega⟩
    rw [hj] at h2 h3
    rw [bl_eq h3 (by simpa using h2)]
    exact hj
theorem len64_any (x : Nat) (w : World) (h1 : x ≤ 65535) :
    Calls Try.prog 55 #[.int .u64 (x : Int)] w fun e w' => e = .returned (.int .i64 (bl x)) ∧ w = w' := by
  have h := Any.bits_Len64 bitsLaid (x : Int) w (by omega) (by omega)
  rw [Int.toNat_natCast, bitLen_bl (by omega)] at h
  exact h.mono fun e w' h => ⟨h.1, h.2.symm⟩
set_option maxHeartbeats 1000000 in
theorem len_any (x : Nat) (w : World) (h1 : x ≤ 65535) :
    Calls Try.prog 48 #[.int .u64 (x : Int)] w fun e w' => e = .returned (.int .i64 (bl x)) ∧ w = w' := by
  go_enter Try.func48, Try.ntmps48
  go_wp2_with (go_at_call 55; refine (len64_any x _ h1).mono ?_; rintro e w' ⟨rfl, rfl⟩)
  go_ret
  exact ⟨rfl, rfl⟩
set_option maxHeartbeats 1000000 in
theorem height_any (n : Nat) (w : World) (h1 : n ≤ 65536) :
    Calls Try.prog 35 #[.int .i64 n] w fun e w' => e = .returned (.int .i64 (hgt n)) ∧ w = w' := by
  by_cases hb : 1 < n
  · have E := Lib.hid (hgt_big hb)
    obtain ⟨m, rfl⟩ : ∃ m, n = m + 1 := ⟨n - 1, by omega⟩
    have hm : 1 ≤ (m : Int) := by omega
    have d1 : decide ((m : Int) ≤ 0) = false := by simp; omega
    clear hb
    go_enter Try.func35, Try.ntmps35
    go_wp2_with (go_at_call 48; refine (len_any m _ (by omega)).mono ?_; rintro e w' ⟨rfl, rfl⟩)
    go_ret
    exact ⟨by rw [E.out]; rfl, rfl⟩
  · have E := Lib.hid (hgt_small (n := n) (by omega))
    go_enter Try.func35, Try.ntmps35
    go_wp2
    go_ret
    exact ⟨ret_int (by rw [E.out]; rfl), rfl⟩
set_option maxHeartbeats 1000000 in
theorem leafHash_any (i v : Int) (w : World) :
    Calls Try.prog 36 #[.int .i64 i, .int .i64 v] w fun e w' => e = .returned (.int .u64 (leafI i v)) ∧ Below w.heap.size w w' := by
  go_enter Try.func36, Try.ntmps36
  go_wp2_with fail
  refine (sum_any leafTxt (by decide) _ 2 2 [i, v] _ (rd_lit _ _ _ rfl rfl) (by omega)).mono ?_
  rintro e w1 ⟨rfl, hb1⟩
  go_wp2
  go_ret
  exact ⟨by unfold leafI; rfl, by (repeat (first | (with_reducible exact Below.refl _ _) | (with_reducible assumption) | (with_reducible refine b_drew ?_) | (with_reducible refine b_drewN ?_ _) | (with_reducible refine b_alloc ?_ _) | ((with_reducible refine b_set ?_ ?_ _); rotate_left; (focus (first | omega | (simp; done) | (simp; omega) | (simp at *; omega)))) | (with_reducible refine b_call ?_ (by with_reducible assumption))))⟩
theorem prI_def (a b : Int) : prI a b = pairI a b := by unfold prI; rfl
set_option maxHeartbeats 1000000 in
theorem join_any (l k : Nat) (a b : Int) (w : World) :
    Calls Try.prog 38 #[.agg #[.int .i64 l, .int .i64 k], .int .u64 a, .int .u64 b] w fun e w' => e = .returned (.int .u64 (jn k a b)) ∧ Below w.heap.size w w' := by
  by_cases he : k % 2 = 0
  · have hq : ((k : Int) % 2 == 0) = true := by simp; omega
    have E := Lib.hid (show jn k a b = prI a b from by unfold jn; rw [if_pos he])
    clear he
    go_enter Try.func38, Try.ntmps38
    go_wp2_with fail
    refine (pair_any a b _).mono ?_
    rintro e w1 ⟨rfl, hb1⟩
    go_wp2
    go_ret
    exact ⟨by rw [E.out, prI_def]; rfl, by (repeat (first | (with_reducible exact Below.refl _ _) | (with_reducible assumption) | (with_reducible refine b_drew ?_) | (with_reducible refine b_drewN ?_ _) | (with_reducible refine b_alloc ?_ _) | ((with_reducible refine b_set ?_ ?_ _); rotate_left; (focus (first | omega | (simp; done) | (simp; omega) | (simp at *; omega)))) | (with_reducible refine b_call ?_ (by with_reducible assumption))))⟩
  · have hq : ((k : Int) % 2 == 0) = false := by simp; omega
    have E := Lib.hid (show jn k a b = prI b a from by unfold jn; rw [if_neg he])
    clear he
    go_enter Try.func38, Try.ntmps38
    go_wp2_with fail
    refine (pair_any b a _).mono ?_
    rintro e w1 ⟨rfl, hb1⟩
    go_wp2
    go_ret
    exact ⟨by rw [E.out, prI_def]; rfl, by (repeat (first | (with_reducible exact Below.refl _ _) | (with_reducible assumption) | (with_reducible refine b_drew ?_) | (with_reducible refine b_drewN ?_ _) | (with_reducible refine b_alloc ?_ _) | ((with_reducible refine b_set ?_ ?_ _); rotate_left; (focus (first | omega | (simp; done) | (simp; omega) | (simp at *; omega)))) | (with_reducible refine b_call ?_ (by with_reducible assumption))))⟩
theorem xor_one (k : Nat) (hk : k ≤ 1000000000) : bits .xor .i64 (k : Int) 1 = (sib k : Int) := by
  have h : bits .xor .i64 (k : Int) 1 = IntKind.i64.wrap ((BitVec.ofInt 64 (k : Int) ^^^ BitVec.ofInt 64 1).toNat : Int) := rfl
  have h1 : (k ^^^ 1) / 2 = k / 2 := by rw [Nat.xor_div_two]; simp
  have h2 : (k ^^^ 1) % 2 = (k + 1) % 2 := by
    have := @Nat.xor_mod_two_pow k 1 1
    simp at this
    rw [this]
    rcases Nat.mod_two_eq_zero_or_one k with h | h <;> simp [h] <;> omega
  have h3 : (BitVec.ofInt 64 (k : Int) ^^^ BitVec.ofInt 64 1).toNat = k ^^^ 1 := by
    rw [BitVec.toNat_xor, BitVec.ofInt_natCast, BitVec.toNat_ofNat, Nat.mod_eq_of_lt (by omega)]
    rfl
  rw [h, h3]
  unfold sib
  simp only [IntKind.wrap_i64]
  split <;> omega
set_option maxHeartbeats 1000000 in
theorem sibling_any (l k : Nat) (w : World) (hk : k ≤ 1000000000) :
    Calls Try.prog 45 #[.agg #[.int .i64 l, .int .i64 k]] w fun e w' => e = .returned (.agg #[.int .i64 l, .int .i64 (sib k)]) ∧ Below w.heap.size w w' := by
  go_enter Try.func45, Try.ntmps45
  go_wp2
  rw [xor_one k hk]
  exact bodyPost_ret (v := .agg #[.int .i64 l, .int .i64 (sib k)]) (by simp [results, Try.results45, go_sem]) rfl ⟨rfl, by (repeat (first | (with_reducible exact Below.refl _ _) | (with_reducible assumption) | (with_reducible refine b_drew ?_) | (with_reducible refine b_drewN ?_ _) | (with_reducible refine b_alloc ?_ _) | ((with_reducible refine b_set ?_ ?_ _); rotate_left; (focus (first | omega | (simp; done) | (simp; omega) | (simp at *; omega)))) | (with_reducible refine b_call ?_ (by with_reducible assumption))))⟩
end Go.Proofs.Ytgelhcgaacnjcaa
