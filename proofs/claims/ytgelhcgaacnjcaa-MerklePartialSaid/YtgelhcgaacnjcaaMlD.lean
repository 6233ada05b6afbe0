/-
  WHAT IS PROVED HERE: a partial tree's entries are those of the full tree: plain law of learn and Set. No condition beyond what each theorem states.
-/
import Derived.Test.YtgelhcgaacnjcaaMlC
import Derived.Test.YtgelhcgaacnjcaaMkY
namespace Go.Proofs.Ytgelhcgaacnjcaa
set_option linter.unusedVariables false

/-- the place's key, of numbers -/
def pk (l j : Nat) : Lit := plL (l : Int) (j : Int)
theorem pk_inj {l j l' j' : Nat} (h1 : l ≤ 1000000000) (h2 : j ≤ 1000000000) (h3 : l' ≤ 1000000000) (h4 : j' ≤ 1000000000) (h : pk l j = pk l' j') : l = l' ∧ j = j' := plL_inj h1 h2 h3 h4 h
/-- each entry is the full tree's, but of the path of i from level k on, which is the elder tree's -/
def Okay (cs : List Int) (h : Nat) (M : Lit → Option Int) : Prop := ∀ l j, l ≤ h → j < 2 ^ (h - l) → ∀ y, M (pk l j) = some y → y = nV cs l j
structure PInv (cs : List Int) (h : Nat) (C M : Lit → Option Int) : Prop where
  ht : hgt cs.length = h
  h10 : h ≤ 10
  cells : ∀ x : Int, (C (kI x)).isSome = true → ∃ (i : Nat) (hi : i < cs.length), x = i ∧ C (kI x) = some cs[i]
  okay : Okay cs h M
  path : ∀ i : Nat, (C (kI i)).isSome = true → ∀ l, l < h → (M (pk l (i / 2 ^ l))).isSome = true ∧ (M (pk l (sib (i / 2 ^ l)))).isSome = true
  root : (M (pk h 0)).isSome = true
theorem put_some {M : Lit → Option Int} {k x : Lit} {v : Int} (h : (M x).isSome = true) : (putM M k v x).isSome = true := by
  unfold putM
  split
  · rfl
  · exact h
theorem bd {h l j : Nat} (h10 : h ≤ 10) (hj : j < 2 ^ (h - l)) : j ≤ 1000000000 := by
  have := Nat.pow_le_pow_right (n := 2) (by omega) (show h - l ≤ 10 by omega)
  omega
theorem Okay.put {cs : List Int} {h : Nat} {M : Lit → Option Int} (h10 : h ≤ 10) (H : Okay cs h M) {l j : Nat} (hl : l ≤ h) (hj : j < 2 ^ (h - l)) : Okay cs h (putM M (pk l j) (nV cs l j)) := by
  intro l' j' hl' hj' y hy
  by_cases he : pk l' j' = pk l j
  · obtain ⟨rfl, rfl⟩ := pk_inj (by omega) (bd h10 hj') (by omega) (bd h10 hj) he
    rw [putM_same] at hy
    exact (Option.some.inj hy).symm
  · rw [putM_other _ _ he] at hy
    exact H l' j' hl' hj' y hy
theorem sib_in {h l i : Nat} (hi : i < 2 ^ h) (hl : l < h) : sib (i / 2 ^ l) < 2 ^ (h - l) := by
  have := shift_lt hi (show l ≤ h by omega)
  rw [show h - l = (h - l - 1) + 1 from by omega] at this ⊢
  exact sib_lt this
/-- the path of learn -/
theorem lrn_ok {cs : List Int} {h i : Nat} {M : Lit → Option Int} (h10 : h ≤ 10) (hi : i < cs.length) (hi2 : i < 2 ^ h) (H : Okay cs h M) : ∀ k, k ≤ h →
    (lrnRun (prfV cs i (List.range h)) i (M, leafI i cs[i]) (List.range k)).2 = nV cs k (i / 2 ^ k) ∧
    Okay cs h (lrnRun (prfV cs i (List.range h)) i (M, leafI i cs[i]) (List.range k)).1 ∧
    (∀ x, (M x).isSome = true → ((lrnRun (prfV cs i (List.range h)) i (M, leafI i cs[i]) (List.range k)).1 x).isSome = true) ∧
    ∀ l, l < k → ((lrnRun (prfV cs i (List.range h)) i (M, leafI i cs[i]) (List.range k)).1 (pk l (i / 2 ^ l))).isSome = true ∧ ((lrnRun (prfV cs i (List.range h)) i (M, leafI i cs[i]) (List.range k)).1 (pk l (sib (i / 2 ^ l)))).isSome = true
  | 0, _ => by
    refine ⟨?_, H, fun x hx => hx, fun l hl => by omega⟩
    show leafI i cs[i] = lfV _ _
    unfold lfV
    rw [dif_pos (by simpa using hi)]
    simp
  | k + 1, hk => by
    obtain ⟨h1, h2, h3, h4⟩ := lrn_ok h10 hi hi2 H k (by omega)
    rw [List.range_succ, lrnRun_snoc]
    obtain ⟨S, hS⟩ : ∃ S, lrnRun (prfV cs i (List.range h)) i (M, leafI i cs[i]) (List.range k) = S := ⟨_, rfl⟩
    rw [hS] at h1 h2 h3 h4 ⊢
    have hp : (prfV cs i (List.range h)).getD k 0 = nV cs k (sib (i / 2 ^ k)) := by
      unfold prfV
      rw [List.getD_eq_getElem?_getD, List.getElem?_map, List.getElem?_range (by omega)]
      rfl
    unfold lrnStep
    simp only [hp, h1]
    have o1 := h2.put h10 (show k ≤ h by omega) (shift_lt hi2 (by omega))
    have o2 := o1.put h10 (show k ≤ h by omega) (sib_in hi2 (by omega))
    refine ⟨by rw [jn_node, half_shift], o2, fun x hx => put_some (put_some (h3 x hx)), fun l hl => ?_⟩
    rcases Nat.lt_or_ge l k with hlk | hlk
    · exact ⟨put_some (put_some (h4 l hlk).1), put_some (put_some (h4 l hlk).2)⟩
    · obtain rfl : l = k := by omega
      refine ⟨put_some (by show (putM _ (pk l (i / 2 ^ l)) _ (pk l (i / 2 ^ l))).isSome = true; rw [putM_same]; rfl), by show (putM _ (pk l (sib (i / 2 ^ l))) _ (pk l (sib (i / 2 ^ l)))).isSome = true; rw [putM_same]; rfl⟩
/-- the path of Set -/
theorem pst_ok {cs : List Int} {h i : Nat} {v : Int} {M : Lit → Option Int} (h10 : h ≤ 10) (hi : i < cs.length) (hi2 : i < 2 ^ h) (H : Okay cs h M) (hs : ∀ l, l < h → (M (pk l (sib (i / 2 ^ l)))).isSome = true) : ∀ k, k ≤ h →
    (pstRun i (M, leafI i v) (List.range k)).2 = nV (cs.set i v) k (i / 2 ^ k) ∧
    (∀ l j, l ≤ h → j < 2 ^ (h - l) → (l < k ∨ j ≠ i / 2 ^ l) → ∀ y, (pstRun i (M, leafI i v) (List.range k)).1 (pk l j) = some y → y = nV (cs.set i v) l j) ∧
    (∀ x, (M x).isSome = true → ((pstRun i (M, leafI i v) (List.range k)).1 x).isSome = true)
  | 0, _ => by
    refine ⟨?_, fun l j hl hj hn y hy => ?_, fun x hx => hx⟩
    · show leafI i v = lfV _ _
      unfold lfV
      rw [dif_pos (by simpa using hi)]
      simp
    · rcases hn with hn | hn
      · omega
      · rw [nV_set cs i v l j hn]
        exact H l j hl hj y hy
  | k + 1, hk => by
    obtain ⟨h1, h2, h3⟩ := pst_ok (v := v) h10 hi hi2 H hs k (by omega)
    rw [List.range_succ, pstRun_snoc]
    obtain ⟨S, hS⟩ : ∃ S, pstRun i (M, leafI i v) (List.range k) = S := ⟨_, rfl⟩
    rw [hS] at h1 h2 h3 ⊢
    have hik := shift_lt hi2 (show k ≤ h by omega)
    have hsk := sib_in hi2 (show k < h by omega)
    have ho : ∀ l j, l ≤ h → j < 2 ^ (h - l) → (l < k + 1 ∨ j ≠ i / 2 ^ l) → ∀ y, (putM S.1 (pk k (i / 2 ^ k)) S.2) (pk l j) = some y → y = nV (cs.set i v) l j := by
      intro l j hl hj hn y hy
      by_cases he : pk l j = pk k (i / 2 ^ k)
      · obtain ⟨rfl, rfl⟩ := pk_inj (by omega) (bd h10 hj) (by omega) (bd h10 hik) he
        rw [putM_same, h1] at hy
        exact (Option.some.inj hy).symm
      · rw [putM_other _ _ he] at hy
        refine h2 l j hl hj ?_ y hy
        rcases hn with hn | hn
        · by_cases hlk : l = k
          · subst hlk
            exact .inr (fun e => he (by rw [e]))
          · exact .inl (by omega)
        · exact .inr hn
    have hv : ((putM S.1 (pk k (i / 2 ^ k)) S.2) (pk k (sib (i / 2 ^ k)))).getD 0 = nV (cs.set i v) k (sib (i / 2 ^ k)) := by
      have hp : ((putM S.1 (pk k (i / 2 ^ k)) S.2) (pk k (sib (i / 2 ^ k)))).isSome = true := put_some (h3 _ (hs k (by omega)))
      obtain ⟨y, hy⟩ := Option.isSome_iff_exists.1 hp
      rw [hy]
      exact ho k _ (by omega) hsk (.inr (sib_ne _)) y hy
    refine ⟨?_, ho, fun x hx => put_some (h3 x hx)⟩
    show jn _ S.2 (((putM S.1 (pk k (i / 2 ^ k)) S.2) (pk k (sib (i / 2 ^ k)))).getD 0) = _
    rw [hv, h1, jn_node, half_shift]
theorem PInv.rootV {cs : List Int} {h : Nat} {C M : Lit → Option Int} (H : PInv cs h C M) : (M (pk h 0)).getD 0 = nV cs h 0 := by
  obtain ⟨y, hy⟩ := Option.isSome_iff_exists.1 H.root
  rw [hy]
  exact H.okay h 0 (Nat.le_refl _) (Nat.pow_pos (by omega)) y hy
theorem PInv.new (cs : List Int) (h : Nat) (ht : hgt cs.length = h) (h10 : h ≤ 10) : PInv cs h (fun _ => none) (M0 (nV cs h 0) h) := by
  refine ⟨ht, h10, fun x hx => Bool.noConfusion hx, fun l j hl hj y hy => ?_, fun i hi => Bool.noConfusion hi, ?_⟩
  · unfold M0 at hy
    by_cases he : pk l j = pk h 0
    · obtain ⟨rfl, rfl⟩ := pk_inj (by omega) (bd h10 hj) (by omega) (by omega) he
      rw [show plL (l : Int) 0 = pk l 0 from rfl, putM_same] at hy
      exact (Option.some.inj hy).symm
    · rw [show plL (h : Int) 0 = pk h 0 from rfl, putM_other _ _ he] at hy
      cases hy
  · show (putM _ (pk h 0) _ (pk h 0)).isSome = true
    rw [putM_same]
    rfl
theorem lt_pow {n h : Nat} (ht : hgt n = h) {i : Nat} (hi : i < n) : i < 2 ^ h := by
  have := hgt_ge n
  rw [ht] at this
  omega
theorem PInv.learn {cs : List Int} {h : Nat} {C M : Lit → Option Int} (H : PInv cs h C M) {i : Nat} (hi : i < cs.length) :
    PInv cs h (putM C (kI i) cs[i]) (lrnRun (prfV cs i (List.range h)) i (M, leafI i cs[i]) (List.range h)).1 := by
  obtain ⟨h1, h2, h3, h4⟩ := lrn_ok H.h10 hi (lt_pow H.ht hi) H.okay h (Nat.le_refl _)
  refine ⟨H.ht, H.h10, fun x hx => ?_, h2, fun j hj l hl => ?_, h3 _ H.root⟩
  · by_cases he : kI x = kI i
    · have hxi := kI_inj he
      subst hxi
      exact ⟨i, hi, rfl, putM_same _ _ _⟩
    · rw [putM_other _ _ he] at hx ⊢
      exact H.cells x hx
  · by_cases he : kI (j : Int) = kI i
    · have hji : j = i := by have := kI_inj he; omega
      subst hji
      exact h4 l hl
    · rw [putM_other _ _ he] at hj
      exact ⟨h3 _ (H.path j hj l hl).1, h3 _ (H.path j hj l hl).2⟩
theorem PInv.set {cs : List Int} {h : Nat} {C M : Lit → Option Int} (H : PInv cs h C M) {i : Nat} (v : Int) (hC : (C (kI i)).isSome = true) (hi : i < cs.length) :
    PInv (cs.set i v) h (putM C (kI i) v) (putM (pstRun i (M, leafI i v) (List.range h)).1 (pk h 0) (pstRun i (M, leafI i v) (List.range h)).2) := by
  have hi2 := lt_pow H.ht hi
  obtain ⟨h1, h2, h3⟩ := pst_ok (v := v) H.h10 hi hi2 H.okay (fun l hl => (H.path i hC l hl).2) h (Nat.le_refl _)
  have hz : i / 2 ^ h = 0 := Nat.div_eq_of_lt hi2
  refine ⟨by rw [List.length_set]; exact H.ht, H.h10, fun x hx => ?_, fun l j hl hj y hy => ?_, fun j hj l hl => ?_, by show (putM _ (pk h 0) _ (pk h 0)).isSome = true; rw [putM_same]; rfl⟩
  · by_cases he : kI x = kI i
    · have hxi := kI_inj he
      subst hxi
      exact ⟨i, by simpa using hi, rfl, by rw [putM_same]; simp⟩
    · rw [putM_other _ _ he] at hx ⊢
      obtain ⟨j, hj, rfl, hc⟩ := H.cells x hx
      refine ⟨j, by simpa using hj, rfl, ?_⟩
      rw [hc, List.getElem_set_ne (fun e => he (by rw [e]))]
  · by_cases he : pk l j = pk h 0
    · obtain ⟨rfl, rfl⟩ := pk_inj (by have := H.h10; omega) (bd H.h10 hj) (by have := H.h10; omega) (by omega) he
      rw [putM_same, h1, hz] at hy
      exact (Option.some.inj hy).symm
    · rw [putM_other _ _ he] at hy
      refine h2 l j hl hj ?_ y hy
      rcases Nat.lt_or_ge l h with hl2 | hl2
      · exact .inl hl2
      · obtain rfl : l = h := by omega
        rw [Nat.sub_self, Nat.pow_zero] at hj
        exact absurd (by rw [show j = 0 from by omega]) he
  · have hj2 : (C (kI j)).isSome = true := by
      by_cases he : kI (j : Int) = kI i
      · rw [he]
        exact hC
      · rw [putM_other _ _ he] at hj
        exact hj
    exact ⟨put_some (h3 _ (H.path j hj2 l hl).1), put_some (h3 _ (H.path j hj2 l hl).2)⟩
end Go.Proofs.Ytgelhcgaacnjcaa
