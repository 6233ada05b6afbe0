/-
  WHAT IS PROVED HERE: plain lists and numbers: forests of parents, their roots, path halving, merging, groups. No condition beyond what each theorem states; no program.
-/
namespace Go.Proofs.Ytjmhibjkbnbefaa
set_option linter.unusedVariables false

/-- The end of the path of parents that go down. -/
def root (par : List Nat) (i : Nat) : Nat := if h : par.getD i i < i then root par (par.getD i i) else i
termination_by i
theorem root_down {par : List Nat} {i : Nat} (h : par.getD i i < i) : root par i = root par (par.getD i i) := by
  rw [root]
  simp only [h, dite_true]
theorem root_stop {par : List Nat} {i : Nat} (h : ¬ par.getD i i < i) : root par i = i := by
  rw [root]
  simp only [h, dite_false]
theorem root_le (par : List Nat) (i : Nat) : root par i ≤ i := by
  induction i using Nat.strongRecOn with
  | _ i ih =>
    by_cases h : par.getD i i < i
    · rw [root_down h]
      have := ih _ h
      omega
    · rw [root_stop h]
      omega
theorem root_root (par : List Nat) (i : Nat) : root par (root par i) = root par i := by
  induction i using Nat.strongRecOn with
  | _ i ih =>
    by_cases h : par.getD i i < i
    · rw [root_down h]
      exact ih _ h
    · rw [root_stop h, root_stop h]
theorem root_is (par : List Nat) (i : Nat) : ¬ par.getD (root par i) (root par i) < root par i := by
  induction i using Nat.strongRecOn with
  | _ i ih =>
    by_cases h : par.getD i i < i
    · rw [root_down h]
      exact ih _ h
    · rw [root_stop h]
      exact h
/-- Every parent is at most its child. -/
def Down (par : List Nat) : Prop := ∀ i, par.getD i i ≤ i
theorem getD_set {par : List Nat} {e v i : Nat} (h : e < par.length) : (par.set e v).getD i i = if i = e then v else par.getD i i := by
  simp only [List.getD_eq_getElem?_getD, List.getElem?_set]
  by_cases h1 : e = i
  · subst h1
    simp [h]
  · simp [h1, Ne.symm h1]
theorem Down.set {par : List Nat} (h : Down par) {e v : Nat} (he : e < par.length) (hv : v ≤ e) : Down (par.set e v) := by
  intro i
  rw [getD_set he]
  split
  · omega
  · exact h i
/-- Path halving keeps the roots. -/
theorem root_half {par : List Nat} (hD : Down par) {e : Nat} (he : e < par.length) (h : par.getD e e < e) (i : Nat) : root (par.set e (par.getD (par.getD e e) (par.getD e e))) i = root par i := by
  have hgp := hD (par.getD e e)
  induction i using Nat.strongRecOn with
  | _ i ih =>
    by_cases hie : i = e
    · subst hie
      have h1 : (par.set i (par.getD (par.getD i i) (par.getD i i))).getD i i = par.getD (par.getD i i) (par.getD i i) := by rw [getD_set he, if_pos rfl]
      rw [root_down (by rw [h1]; omega), h1, ih _ (by omega), root_down h]
      by_cases h2 : par.getD (par.getD i i) (par.getD i i) < par.getD i i
      · rw [root_down h2]
      · have h3 : par.getD (par.getD i i) (par.getD i i) = par.getD i i := by omega
        rw [h3]
    · have h1 : (par.set e (par.getD (par.getD e e) (par.getD e e))).getD i i = par.getD i i := by rw [getD_set he, if_neg hie]
      by_cases h2 : par.getD i i < i
      · rw [root_down (by rw [h1]; exact h2), h1, ih _ h2, root_down h2]
      · rw [root_stop (by rw [h1]; exact h2), root_stop h2]
/-- The partition after two roots are joined. -/
def joinR (f : Nat → Nat) (lo hi : Nat) : Nat → Nat := fun i => if f i = hi then lo else f i
theorem root_join {par : List Nat} {lo hi : Nat} (hh : hi < par.length) (h : lo < hi) (hlo : root par lo = lo) (hhi : root par hi = hi) (i : Nat) : root (par.set hi lo) i = joinR (root par) lo hi i := by
  unfold joinR
  induction i using Nat.strongRecOn with
  | _ i ih =>
    by_cases hie : i = hi
    · subst hie
      have h1 : (par.set i lo).getD i i = lo := by rw [getD_set hh, if_pos rfl]
      rw [root_down (by rw [h1]; exact h), h1, ih _ h, hlo, if_neg (by omega), if_pos hhi]
    · have h1 : (par.set hi lo).getD i i = par.getD i i := by rw [getD_set hh, if_neg hie]
      by_cases h2 : par.getD i i < i
      · rw [root_down (by rw [h1]; exact h2), h1, ih _ h2, root_down h2]
      · rw [root_stop (by rw [h1]; exact h2), root_stop h2, if_neg hie]

/-! ### Partitions by their least elements -/
structure Part (f : Nat → Nat) : Prop where
  le : ∀ i, f i ≤ i
  idem : ∀ i, f (f i) = f i
theorem part_root (par : List Nat) : Part (root par) := ⟨root_le par, root_root par⟩
theorem part_id : Part fun i => i := ⟨fun i => Nat.le_refl i, fun _ => rfl⟩
theorem Part.join {f : Nat → Nat} (h : Part f) {lo hi : Nat} (hlo : f lo = lo) (hhi : f hi = hi) (hl : lo ≤ hi) : Part (joinR f lo hi) := by
  refine ⟨fun i => ?_, fun i => ?_⟩
  · unfold joinR
    have := h.le i
    split <;> omega
  · unfold joinR
    by_cases h1 : f i = hi
    · rw [if_pos h1, hlo]
      split <;> omega
    · rw [if_neg h1, h.idem, if_neg h1]
/-- Merging the sets of two elements. -/
def mergeR (f : Nat → Nat) (a b : Nat) : Nat → Nat := joinR f (min (f a) (f b)) (max (f a) (f b))
theorem Part.merge {f : Nat → Nat} (h : Part f) (a b : Nat) : Part (mergeR f a b) := by
  unfold mergeR
  refine h.join ?_ ?_ (by omega)
  · rcases Nat.le_total (f a) (f b) with h1 | h1
    · rw [Nat.min_eq_left h1, h.idem]
    · rw [Nat.min_eq_right h1, h.idem]
  · rcases Nat.le_total (f a) (f b) with h1 | h1
    · rw [Nat.max_eq_right h1, h.idem]
    · rw [Nat.max_eq_left h1, h.idem]
theorem merge_eq {f : Nat → Nat} (a b i j : Nat) : mergeR f a b i = mergeR f a b j ↔ f i = f j ∨ ((f i = f a ∨ f i = f b) ∧ (f j = f a ∨ f j = f b)) := by
  unfold mergeR joinR
  split <;> split <;> omega
theorem merge_same {f : Nat → Nat} {a b : Nat} (h : f a = f b) : mergeR f a b = f := by
  funext i
  unfold mergeR joinR
  split <;> omega
theorem merge_keep {f : Nat → Nat} {a b i j : Nat} (h : f i = f j) : mergeR f a b i = mergeR f a b j := (merge_eq a b i j).2 (.inl h)
theorem merge_hit {f : Nat → Nat} (a b : Nat) : mergeR f a b a = mergeR f a b b := (merge_eq a b a b).2 (.inr ⟨.inl rfl, .inr rfl⟩)

/-- a is one of the n elements. -/
def inR (n : Nat) (a : Int) : Bool := decide (0 ≤ a ∧ a < n)
def sameU (n : Nat) (f : Nat → Nat) (a b : Int) : Bool := inR n a && inR n b && decide (f a.toNat = f b.toNat)
def uniB (n : Nat) (f : Nat → Nat) (a b : Int) : Bool := inR n a && inR n b && !decide (f a.toNat = f b.toNat)
def uniF (n : Nat) (f : Nat → Nat) (a b : Int) : Nat → Nat := if inR n a && inR n b then mergeR f a.toNat b.toNat else f
theorem Part.uni {f : Nat → Nat} (h : Part f) (n : Nat) (a b : Int) : Part (uniF n f a b) := by
  unfold uniF
  split
  · exact h.merge _ _
  · exact h
theorem uni_not {n : Nat} {f : Nat → Nat} {a b : Int} (h : uniB n f a b = false) : uniF n f a b = f := by
  unfold uniF
  split
  · rename_i h1
    unfold uniB at h
    rw [h1] at h
    simp at h
    exact merge_same h
  · rfl

/-- The members of the set with least element r; the least elements; the sets. -/
def memb (f : Nat → Nat) (n r : Nat) : List Nat := (List.range n).filter fun k => f k == r
def heads (f : Nat → Nat) (n : Nat) : List Nat := (List.range n).filter fun r => f r == r
def groupsU (f : Nat → Nat) (n : Nat) : List (List Nat) := (heads f n).map (memb f n)
theorem heads_snoc (f : Nat → Nat) (n : Nat) : heads f (n + 1) = heads f n ++ (if f n = n then [n] else []) := by
  unfold heads
  rw [List.range_succ, List.filter_append]
  congr 1
  by_cases h : f n = n <;> simp [h]
theorem memb_snoc (f : Nat → Nat) (n r : Nat) : memb f (n + 1) r = memb f n r ++ (if f n = r then [n] else []) := by
  unfold memb
  rw [List.range_succ, List.filter_append]
  congr 1
  by_cases h : f n = r <;> simp [h]
theorem mem_memb {f : Nat → Nat} {n r k : Nat} : k ∈ memb f n r ↔ k < n ∧ f k = r := by simp [memb]
theorem mem_heads {f : Nat → Nat} {n r : Nat} : r ∈ heads f n ↔ r < n ∧ f r = r := by simp [heads]
theorem memb_len (f : Nat → Nat) (n r : Nat) : (memb f n r).length ≤ n := by
  have := List.length_filter_le (fun k => f k == r) (List.range n)
  simpa [memb] using this
theorem heads_len (f : Nat → Nat) (n : Nat) : (heads f n).length ≤ n := by
  have := List.length_filter_le (fun k => f k == k) (List.range n)
  simpa [heads] using this

/-! ### The reference's set numbers -/
def RelU (s : List Int) (f : Nat → Nat) : Prop := ∀ i j, i < s.length → j < s.length → (s.getD i 0 = s.getD j 0 ↔ f i = f j)
def newS (n : Nat) : List Int := (List.range n).map fun (k : Nat) => (k : Int)
theorem newS_len (n : Nat) : (newS n).length = n := by simp [newS]
theorem rel_new (n : Nat) : RelU (newS n) fun i => i := by
  intro i j hi hj
  simp [newS] at hi hj
  simp [newS, List.getD_eq_getElem?_getD, hi, hj]
  omega
def uniS (s : List Int) (a b : Int) : List Int := if inR s.length a && inR s.length b && !decide (s.getD a.toNat 0 = s.getD b.toNat 0) then s.map fun v => if v = s.getD b.toNat 0 then s.getD a.toNat 0 else v else s
theorem uniS_len (s : List Int) (a b : Int) : (uniS s a b).length = s.length := by
  unfold uniS
  split <;> simp
theorem in_lt {n : Nat} {a : Int} (h : inR n a = true) : a.toNat < n := by
  unfold inR at h
  simp at h
  omega
theorem rel_uni {s : List Int} {f : Nat → Nat} (h : RelU s f) (a b : Int) : RelU (uniS s a b) (uniF s.length f a b) := by
  unfold uniS uniF
  by_cases h1 : inR s.length a && inR s.length b
  · rw [if_pos h1]
    have h2 : inR s.length a = true ∧ inR s.length b = true := by simpa using h1
    have la := in_lt h2.1
    have lb := in_lt h2.2
    have hab := h _ _ la lb
    by_cases h3 : s.getD a.toNat 0 = s.getD b.toNat 0
    · rw [if_neg (by simp only [h3]; simp), merge_same (hab.1 h3)]
      exact h
    · rw [if_pos (by simp only [h1, h3]; simp)]
      intro i j hi hj
      simp only [List.length_map] at hi hj
      have e : ∀ k, k < s.length → (s.map fun v => if v = s.getD b.toNat 0 then s.getD a.toNat 0 else v).getD k 0 = if s.getD k 0 = s.getD b.toNat 0 then s.getD a.toNat 0 else s.getD k 0 := by
        intro k hk
        simp [List.getD_eq_getElem?_getD, hk]
      rw [e i hi, e j hj, merge_eq]
      have q1 := h _ _ hi lb
      have q2 := h _ _ hj lb
      have q3 := h _ _ hi la
      have q4 := h _ _ hj la
      have q5 := h _ _ hi hj
      by_cases p1 : s.getD i 0 = s.getD b.toNat 0 <;> by_cases p2 : s.getD j 0 = s.getD b.toNat 0
      · rw [if_pos p1, if_pos p2]
        have := q1.1 p1
        have := q2.1 p2
        constructor
        · intro _
          omega
        · intro _
          rfl
      · rw [if_pos p1, if_neg p2]
        have := q1.1 p1
        constructor
        · intro hh
          have := q4.1 hh.symm
          omega
        · intro hh
          have n2 : ¬ f j = f b.toNat := fun e => p2 (q2.2 e)
          exact (q4.2 (by omega)).symm
      · rw [if_neg p1, if_pos p2]
        have := q2.1 p2
        constructor
        · intro hh
          have := q3.1 hh
          omega
        · intro hh
          have n1 : ¬ f i = f b.toNat := fun e => p1 (q1.2 e)
          exact q3.2 (by omega)
      · rw [if_neg p1, if_neg p2]
        have n1 : ¬ f i = f b.toNat := fun e => p1 (q1.2 e)
        have n2 : ¬ f j = f b.toNat := fun e => p2 (q2.2 e)
        constructor
        · intro hh
          exact .inl (q5.1 hh)
        · intro hh
          exact q5.2 (by omega)
  · rw [if_neg h1, if_neg (by simp only [h1]; simp)]
    exact h
theorem rel_same {s : List Int} {f : Nat → Nat} (h : RelU s f) {a b : Int} (ha : inR s.length a = true) (hb : inR s.length b = true) : (s.getD a.toNat 0 = s.getD b.toNat 0) ↔ f a.toNat = f b.toNat := h _ _ (in_lt ha) (in_lt hb)
end Go.Proofs.Ytjmhibjkbnbefaa
