/-
  WHAT IS PROVED HERE: a proof with one element replaced does not verify; the walk of the law MerkleSound. No condition but what comes in lies in memory.
-/
import Derived.Test.YtgelhcgaacnjcaaMkO
namespace Go.Proofs.Ytgelhcgaacnjcaa
set_option linter.unusedVariables false
open Go.ChangeShapes Go.WideShapes Go.ChangeAt Go.RowKit

theorem prI_left {a b c : Int} (ha : U64 a) (hb : U64 b) (h : prI a c = prI b c) : a = b := by
  rw [prI_def, prI_def] at h
  have := pair_left (c := c) ha hb
  rw [h, beq_self_eq_true] at this
  simpa using this.symm
theorem prI_right {a b c : Int} (ha : U64 a) (hb : U64 b) (h : prI c a = prI c b) : a = b := by
  rw [prI_def, prI_def] at h
  have := pair_right (c := c) ha hb
  rw [h, beq_self_eq_true] at this
  simpa using this.symm
theorem jn_own {k : Nat} {a b c : Int} (ha : U64 a) (hb : U64 b) (h : jn k a c = jn k b c) : a = b := by
  unfold jn at h
  split at h
  · exact prI_left ha hb h
  · exact prI_right ha hb h
theorem jn_other {k : Nat} {a b c : Int} (ha : U64 a) (hb : U64 b) (h : jn k c a = jn k c b) : a = b := by
  unfold jn at h
  split at h
  · exact prI_right ha hb h
  · exact prI_left ha hb h
theorem phs_cons (prf : List Int) (i : Nat) (a : Int) (l : Nat) (ls : List Nat) : phs prf i a (l :: ls) = phs prf i (jn (i / 2 ^ l) a (prf.getD l 0)) ls := by simp [phs]
theorem phs_nil (prf : List Int) (i : Nat) (a : Int) : phs prf i a [] = a := by simp [phs]
theorem phs_u64 (prf : List Int) (i : Nat) (ls : List Nat) : ∀ {a : Int}, U64 a → U64 (phs prf i a ls) := by
  induction ls with
  | nil => intro a h; rw [phs_nil]; exact h
  | cons l ls ih => intro a _; rw [phs_cons]; exact ih (jn_u64 _ _ _)
theorem phs_start (prf : List Int) (i : Nat) (ls : List Nat) : ∀ {a b : Int}, U64 a → U64 b → phs prf i a ls = phs prf i b ls → a = b := by
  induction ls with
  | nil => intro a b _ _ h; rw [phs_nil, phs_nil] at h; exact h
  | cons l ls ih => intro a b ha hb h; rw [phs_cons, phs_cons] at h; exact jn_own ha hb (ih (jn_u64 _ _ _) (jn_u64 _ _ _) h)
theorem phs_app (prf : List Int) (i : Nat) (a : Int) (l1 l2 : List Nat) : phs prf i a (l1 ++ l2) = phs prf i (phs prf i a l1) l2 := by simp [phs]
theorem phs_congr {prf prf' : List Int} (i : Nat) (ls : List Nat) : ∀ {a : Int}, (∀ l ∈ ls, prf.getD l 0 = prf'.getD l 0) → phs prf i a ls = phs prf' i a ls := by
  induction ls with
  | nil => intro a _; rw [phs_nil, phs_nil]
  | cons l ls ih =>
    intro a h
    have h1 := h l (List.mem_cons_self ..)
    rw [phs_cons, phs_cons, h1]
    exact ih fun x hx => h x (List.mem_cons_of_mem _ hx)
theorem range_split {j q : Nat} (h : j < q) : List.range q = List.range j ++ ([j] ++ (List.range (q - (j + 1))).map (· + (j + 1))) := by
  rw [← List.append_assoc, ← List.range_succ]
  apply List.ext_getElem
  · simp; omega
  · intro n h1 h2
    simp at h1
    by_cases hn : n < j + 1
    · rw [List.getElem_append_left (by simpa using hn)]; simp
    · rw [List.getElem_append_right (by simpa using hn)]; simp; omega
theorem getD_set_ne (l : List Int) {j k : Nat} (v : Int) (h : k ≠ j) : (l.set j v).getD k 0 = l.getD k 0 := by
  simp [List.getD, List.getElem?_set_ne (Ne.symm h)]
theorem phs_set {prf : List Int} {i j q : Nat} {a p : Int} (hj : j < q) (hl : j < prf.length) (ha : U64 a) (hp : U64 p) (ho : U64 prf[j]) (h : phs (prf.set j p) i a (List.range q) = phs prf i a (List.range q)) : p = prf[j] := by
  rw [range_split hj, phs_app, phs_app, phs_app, phs_app] at h
  have e1 : phs (prf.set j p) i a (List.range j) = phs prf i a (List.range j) := phs_congr i _ fun l hl => getD_set_ne _ _ (by have := List.mem_range.1 hl; omega)
  rw [e1] at h
  have e2 : ∀ b, phs (prf.set j p) i b ((List.range (q - (j + 1))).map (· + (j + 1))) = phs prf i b ((List.range (q - (j + 1))).map (· + (j + 1))) := fun b => phs_congr i _ fun l hl => getD_set_ne _ _ (by
    obtain ⟨x, _, rfl⟩ := List.mem_map.1 hl
    omega)
  rw [e2, phs_cons, phs_nil, phs_cons, phs_nil] at h
  have h3 := phs_start prf i _ (jn_u64 _ _ _) (jn_u64 _ _ _) h
  have x1 : (prf.set j p).getD j 0 = p := by simp [List.getD, hl]
  have x2 : prf.getD j 0 = prf[j] := by simp [List.getD, hl]
  rw [x1, x2] at h3
  exact jn_other hp ho h3
theorem leafI_inj {i v v' : Int} (hv : I64 v) (hv' : I64 v') (h : leafI i v = leafI i v') : v = v' := by
  unfold leafI at h
  exact u64w_inj hv hv' (sumI_one (p := [i]) (q := []) h)
theorem prfV_u64 (cs : List Int) (i : Nat) (ls : List Nat) : ∀ x ∈ prfV cs i ls, U64 x := by
  intro x hx
  obtain ⟨l, _, rfl⟩ := List.mem_map.1 hx
  exact nV_u64 _ _ _
/-- one element replaced: it does not verify -/
theorem verB_bent (cs : List Int) (i : Nat) (hi : i < cs.length) (hv : I64 cs[i]) (k d : Int) (hk1 : 1 ≤ k) (hk2 : k < 2 + (hgt cs.length : Int)) (hd1 : 1 ≤ d) (hd2 : d ≤ 1000000) :
    verB (nV cs (hgt cs.length) 0) (cs.length : Nat) (bentOf i cs[i] (prfV cs i (List.range (hgt cs.length))) k d).1 (bentOf i cs[i] (prfV cs i (List.range (hgt cs.length))) k d).2.1 (bentOf i cs[i] (prfV cs i (List.range (hgt cs.length))) k d).2.2 = false := by
  have hroot := verB_prf cs i hi
  rw [verB_yes (by simp [prfV_len]; omega)] at hroot
  simp only [Int.toNat_natCast, beq_iff_eq] at hroot
  have hlu : U64 (leafI i cs[i]) := leafI_u64 _ _
  by_cases h1 : k = 1
  · subst h1
    rw [bentOf_1]
    simp only
    rw [verB_yes (by simp [prfV_len]; omega)]
    simp only [Int.toNat_natCast]
    rw [← hroot, beq_eq_false_iff_ne]
    intro h
    have h2 := phs_start _ _ _ (leafI_u64 _ _) hlu h
    have h3 := leafI_inj (by unfold I64 wrap64; omega) hv h2
    unfold wrap64 at h3
    unfold I64 at hv
    omega
  · obtain ⟨j, rfl⟩ : ∃ j : Nat, k = (j : Int) + 2 := ⟨(k - 2).toNat, by omega⟩
    rw [bentOf_2]
    simp only
    have hjq : j < hgt cs.length := by omega
    have hjl : j < (prfV cs i (List.range (hgt cs.length))).length := by simpa [prfV_len] using hjq
    rw [verB_yes (by simp [prfV_len]; omega)]
    simp only [Int.toNat_natCast]
    rw [← hroot, beq_eq_false_iff_ne]
    intro h
    have hu := prfV_u64 cs i (List.range (hgt cs.length)) _ (List.getElem_mem hjl)
    have h2 := phs_set hjq hjl hlu (u64w_u64 _) hu h
    have h3 : (prfV cs i (List.range (hgt cs.length))).getD j 0 = (prfV cs i (List.range (hgt cs.length)))[j] := by simp [List.getD, hjl]
    rw [h3] at h2
    generalize (prfV cs i (List.range (hgt cs.length)))[j] = p at h2 hu
    unfold U64 at hu
    simp only [u64w, IntKind.wrap_u64] at h2
    omega
theorem around_small {x m : Int} (h0 : 0 ≤ x) (h1 : x < m) : around x m = x := by
  unfold around
  rw [if_neg (by omega)]
  exact Int.emod_eq_of_lt h0 h1
end Go.Proofs.Ytgelhcgaacnjcaa
