/-
  WHAT IS PROVED HERE: plain facts on hash trees: heights, nodes, paths. No program, no condition beyond what each theorem states.
-/
import Derived.Test.YtgelhcgaacnjcaaHsP
namespace Go.Proofs.Ytgelhcgaacnjcaa
set_option linter.unusedVariables false

/-- bits that a number takes -/
def bl (x : Nat) : Nat := if x = 0 then 0 else Nat.log2 x + 1
/-- levels above the leaves -/
@[irreducible] def hgt (n : Nat) : Nat := if n ≤ 1 then 0 else bl (n - 1)
theorem bl_lt (x : Nat) : x < 2 ^ bl x := by
  unfold bl
  split
  · subst_vars; simp
  · exact Nat.lt_log2_self
theorem bl_min {x j : Nat} (h : x < 2 ^ j) : bl x ≤ j := by
  unfold bl
  split
  · omega
  · have := (Nat.log2_lt (by assumption)).2 h
    omega
theorem bl_eq {x j : Nat} (h1 : x < 2 ^ (j + 1)) (h2 : 2 ^ j ≤ x) : bl x = j + 1 := by
  have h3 := bl_min h1
  have h4 := bl_lt x
  rcases Nat.lt_or_ge (bl x) (j + 1) with h5 | h5
  · have := Nat.pow_le_pow_right (n := 2) (by omega) (show bl x ≤ j by omega)
    omega
  · omega
theorem bl_pos {x : Nat} (h : 0 < x) : ∃ j, bl x = j + 1 ∧ 2 ^ j ≤ x := by
  refine ⟨Nat.log2 x, by unfold bl; rw [if_neg (by omega)], Nat.log2_self_le (by omega)⟩
theorem bl_byte {x : Nat} (h : 256 ≤ x) : bl x = bl (x / 256) + 8 := by
  obtain ⟨j, h1, h2⟩ := bl_pos (x := x / 256) (by omega)
  have h3 := bl_lt (x / 256)
  rw [h1] at h3 ⊢
  refine bl_eq (j := j + 8) ?_ ?_
  · have : 2 ^ (j + 8 + 1) = 2 ^ (j + 1) * 256 := by rw [show j + 8 + 1 = (j + 1) + 8 from by omega, Nat.pow_add]
    omega
  · have : 2 ^ (j + 8) = 2 ^ j * 256 := by rw [Nat.pow_add]
    omega
theorem hgt_small {n : Nat} (h : n ≤ 1) : hgt n = 0 := by unfold hgt; rw [if_pos h]
theorem hgt_big {n : Nat} (h : 1 < n) : hgt n = bl (n - 1) := by unfold hgt; rw [if_neg (by omega)]
theorem hgt_ge (n : Nat) : n ≤ 2 ^ hgt n := by
  rcases Nat.lt_or_ge 1 n with h | h
  · rw [hgt_big h]
    have := bl_lt (n - 1)
    omega
  · rw [hgt_small h]
    simpa using h
theorem hgt_min {n j : Nat} (h : n ≤ 2 ^ j) : hgt n ≤ j := by
  rcases Nat.lt_or_ge 1 n with h1 | h1
  · rw [hgt_big h1]
    exact bl_min (by omega)
  · rw [hgt_small h1]
    omega
theorem hgt_lt {n j : Nat} (h : j < hgt n) : 2 ^ j < n := by
  rcases Nat.lt_or_ge (2 ^ j) n with h1 | h1
  · exact h1
  · have := hgt_min h1
    omega

abbrev leafTxt : ByteArray := ⟨#[108, 101, 97, 102]⟩
abbrev emptyTxt : ByteArray := ⟨#[101, 109, 112, 116, 121]⟩
@[irreducible] def leafI (i v : Int) : Int := sumI (txt leafTxt) [i, v]
@[irreducible] def emptyI : Int := sumI (txt emptyTxt) []
@[irreducible] def prI (a b : Int) : Int := pairI a b
theorem sumI_u64 (a b : List Int) : U64 (sumI a b) := by unfold sumI; exact mixI_u64 _ _
theorem leafI_u64 (i v : Int) : U64 (leafI i v) := by unfold leafI; exact sumI_u64 _ _
theorem emptyI_u64 : U64 emptyI := by unfold emptyI; exact sumI_u64 _ _
theorem prI_u64 (a b : Int) : U64 (prI a b) := by unfold prI pairI; exact sumI_u64 _ _
/-- the hash of leaf i -/
def lfV (cs : List Int) (i : Nat) : Int := if h : i < cs.length then leafI i cs[i] else emptyI
/-- the hash of node k of a level -/
def nV (cs : List Int) : Nat → Nat → Int
  | 0, k => lfV cs k
  | l + 1, k => prI (nV cs l (2 * k)) (nV cs l (2 * k + 1))
theorem nV_u64 (cs : List Int) (l k : Nat) : U64 (nV cs l k) := by
  cases l with
  | zero =>
    unfold nV lfV
    split
    · exact leafI_u64 _ _
    · exact emptyI_u64
  | succ l => exact prI_u64 _ _
/-- the place of the other child -/
def sib (k : Nat) : Nat := if k % 2 = 0 then k + 1 else k - 1
/-- the parent's hash -/
def jn (k : Nat) (own other : Int) : Int := if k % 2 = 0 then prI own other else prI other own
theorem jn_u64 (k : Nat) (a b : Int) : U64 (jn k a b) := by unfold jn; split <;> exact prI_u64 _ _
theorem jn_node (cs : List Int) (l k : Nat) : jn k (nV cs l k) (nV cs l (sib k)) = nV cs (l + 1) (k / 2) := by
  show jn k _ _ = prI _ _
  unfold jn sib
  split
  · rw [show 2 * (k / 2) = k from by omega]
  · rw [show 2 * (k / 2) = k - 1 from by omega, show k - 1 + 1 = k from by omega]
theorem sib_lt {k l : Nat} (h : k < 2 ^ (l + 1)) : sib k < 2 ^ (l + 1) := by
  have : 2 ^ (l + 1) = 2 * 2 ^ l := by rw [Nat.pow_succ, Nat.mul_comm]
  unfold sib
  split <;> omega
theorem sib_ne (k : Nat) : sib k ≠ k := by unfold sib; split <;> omega
theorem sib_half (k : Nat) : sib k / 2 = k / 2 := by unfold sib; split <;> omega
theorem shift_lt {i h l : Nat} (hi : i < 2 ^ h) (hl : l ≤ h) : i / 2 ^ l < 2 ^ (h - l) := by
  rw [Nat.div_lt_iff_lt_mul (Nat.pow_pos (by omega)), ← Nat.pow_add, Nat.sub_add_cancel hl]
  exact hi
theorem half_shift (i l : Nat) : i / 2 ^ l / 2 = i / 2 ^ (l + 1) := by rw [Nat.div_div_eq_div_mul, Nat.pow_succ]
/-- a changed leaf is seen on its path alone -/
theorem nV_set (cs : List Int) (i : Nat) (v : Int) : ∀ (l k : Nat), k ≠ i / 2 ^ l → nV (cs.set i v) l k = nV cs l k
  | 0, k, h => by
    have h : k ≠ i := by simpa using h
    show lfV _ k = lfV _ k
    unfold lfV
    simp only [List.length_set]
    split
    · rw [List.getElem_set_ne (by omega)]
    · rfl
  | l + 1, k, h => by
    have h : k ≠ i / 2 ^ l / 2 := by rw [half_shift]; exact h
    show prI _ _ = prI _ _
    rw [nV_set cs i v l (2 * k) (by omega), nV_set cs i v l (2 * k + 1) (by omega)]
theorem pow_step {h l : Nat} (hl : l < h) : 2 ^ (h - l) = 2 * 2 ^ (h - (l + 1)) := by
  rw [show h - l = (h - (l + 1)) + 1 from by omega, Nat.pow_succ, Nat.mul_comm]
end Go.Proofs.Ytgelhcgaacnjcaa
