/-
  WHAT IS PROVED HERE: plain lists and numbers: the partition that edges make, its independence of their order, counts of sets and of members. No condition beyond what each theorem states; no program.
-/
import Derived.Test.YtjmhibjkbnbefaaUfP
namespace Go.Proofs.Ytjmhibjkbnbefaa
set_option linter.unusedVariables false

def foldU (n : Nat) (f : Nat → Nat) (E : List (Int × Int)) : Nat → Nat := E.foldl (fun g e => uniF n g e.1 e.2) f
theorem foldU_snoc (n : Nat) (f : Nat → Nat) (E : List (Int × Int)) (e : Int × Int) : foldU n f (E ++ [e]) = uniF n (foldU n f E) e.1 e.2 := by simp [foldU]
theorem foldU_part {f : Nat → Nat} (h : Part f) (n : Nat) (E : List (Int × Int)) : Part (foldU n f E) := by
  induction E generalizing f with
  | nil => exact h
  | cons e E ih => exact ih (h.uni n e.1 e.2)
theorem uni_keep {n : Nat} {f : Nat → Nat} {a b : Int} {i j : Nat} (h : f i = f j) : uniF n f a b i = uniF n f a b j := by
  unfold uniF
  split
  · exact merge_keep h
  · exact h
theorem foldU_keep {n : Nat} {f : Nat → Nat} {i j : Nat} (h : f i = f j) (E : List (Int × Int)) : foldU n f E i = foldU n f E j := by
  induction E generalizing f with
  | nil => exact h
  | cons e E ih => exact ih (uni_keep h)
theorem foldU_hit {n : Nat} {f : Nat → Nat} {E : List (Int × Int)} {a b : Int} (h : (a, b) ∈ E) (ha : inR n a = true) (hb : inR n b = true) : foldU n f E a.toNat = foldU n f E b.toNat := by
  induction E generalizing f with
  | nil => cases h
  | cons e E ih =>
    rcases List.mem_cons.1 h with h1 | h1
    · subst h1
      refine foldU_keep ?_ E
      unfold uniF
      simp only [ha, hb, Bool.and_self, if_true]
      exact merge_hit _ _
    · exact ih h1
/-- A path of edges within range joins two elements. -/
inductive Conn (n : Nat) (E : List (Int × Int)) : Nat → Nat → Prop
  | refl (i : Nat) : Conn n E i i
  | edge {a b : Int} (h : (a, b) ∈ E) (ha : inR n a = true) (hb : inR n b = true) : Conn n E a.toNat b.toNat
  | symm {i j : Nat} (h : Conn n E i j) : Conn n E j i
  | trans {i j k : Nat} (h : Conn n E i j) (h' : Conn n E j k) : Conn n E i k
theorem Conn.mono {n : Nat} {E E' : List (Int × Int)} (hE : ∀ a b, (a, b) ∈ E → (a, b) ∈ E' ∨ (b, a) ∈ E') {i j : Nat} (h : Conn n E i j) : Conn n E' i j := by
  induction h with
  | refl i => exact .refl i
  | edge h ha hb =>
    rcases hE _ _ h with h1 | h1
    · exact .edge h1 ha hb
    · exact .symm (.edge h1 hb ha)
  | symm _ ih => exact ih.symm
  | trans _ _ ih ih' => exact ih.trans ih'
theorem conn_snoc {n : Nat} {E : List (Int × Int)} {e : Int × Int} {i j : Nat} (h : Conn n E i j) : Conn n (E ++ [e]) i j := h.mono fun a b h => .inl (List.mem_append_left _ h)
theorem snoc_rec {α : Type} {P : List α → Prop} (h0 : P []) (h1 : ∀ l x, P l → P (l ++ [x])) : ∀ l, P l := by
  intro l
  rw [← List.reverse_reverse l]
  induction l.reverse with
  | nil => exact h0
  | cons x l ih => rw [List.reverse_cons]; exact h1 _ _ ih
theorem foldU_conn (n : Nat) (E : List (Int × Int)) (i j : Nat) : foldU n (fun i => i) E i = foldU n (fun i => i) E j ↔ Conn n E i j := by
  constructor
  · revert i j
    refine snoc_rec (P := fun E => ∀ i j, foldU n (fun i => i) E i = foldU n (fun i => i) E j → Conn n E i j) ?_ ?_ E
    · intro i j h
      have h' : i = j := h
      subst h'
      exact .refl _
    · intro l x ih i j h
      rw [foldU_snoc] at h
      unfold uniF at h
      split at h
      · rename_i hx
        have hx' : inR n x.1 = true ∧ inR n x.2 = true := by simpa using hx
        have he : Conn n (l ++ [x]) x.1.toNat x.2.toNat := .edge (by simp) hx'.1 hx'.2
        rcases (merge_eq _ _ _ _).1 h with h1 | ⟨h1 | h1, h2 | h2⟩
        · exact conn_snoc (ih _ _ h1)
        · exact (conn_snoc (ih _ _ h1)).trans (conn_snoc (ih _ _ h2)).symm
        · exact ((conn_snoc (ih _ _ h1)).trans he).trans (conn_snoc (ih _ _ h2)).symm
        · exact ((conn_snoc (ih _ _ h1)).trans he.symm).trans (conn_snoc (ih _ _ h2)).symm
        · exact (conn_snoc (ih _ _ h1)).trans (conn_snoc (ih _ _ h2)).symm
      · exact conn_snoc (ih _ _ h)
  · intro h
    induction h with
    | refl i => rfl
    | edge h ha hb => exact foldU_hit h ha hb
    | symm _ ih => exact ih.symm
    | trans _ _ ih ih' => exact ih.trans ih'
theorem part_eq {f g : Nat → Nat} (hf : Part f) (hg : Part g) (h : ∀ i j, f i = f j ↔ g i = g j) : f = g := by
  funext i
  have h1 := (h _ _).1 (hf.idem i)
  have h2 := (h _ _).2 (hg.idem i)
  have h3 := hg.le (f i)
  have h4 := hf.le (g i)
  omega
theorem foldU_same {n : Nat} {E E' : List (Int × Int)} (h1 : ∀ a b, (a, b) ∈ E → (a, b) ∈ E' ∨ (b, a) ∈ E') (h2 : ∀ a b, (a, b) ∈ E' → (a, b) ∈ E ∨ (b, a) ∈ E) : foldU n (fun i => i) E = foldU n (fun i => i) E' :=
  part_eq (foldU_part part_id n E) (foldU_part part_id n E') fun i j => by
    rw [foldU_conn, foldU_conn]
    exact ⟨fun h => h.mono h1, fun h => h.mono h2⟩

/-! ### Counts -/
theorem heads_nodup (f : Nat → Nat) (n : Nat) : (heads f n).Nodup := List.nodup_range.filter _
theorem memb_nodup (f : Nat → Nat) (n r : Nat) : (memb f n r).Nodup := List.nodup_range.filter _
theorem range_pairwise (n : Nat) : (List.range n).Pairwise (· < ·) := List.pairwise_lt_range
theorem heads_sorted (f : Nat → Nat) (n : Nat) : (heads f n).Pairwise (· < ·) := (range_pairwise n).filter _
theorem memb_sorted (f : Nat → Nat) (n r : Nat) : (memb f n r).Pairwise (· < ·) := (range_pairwise n).filter _
/-- Two heads are joined. -/
theorem heads_join {f : Nat → Nat} {n lo hi : Nat} (hlo : f lo = lo) (hhi : f hi = hi) (h : lo < hi) : heads (joinR f lo hi) n = (heads f n).filter (· != hi) := by
  unfold heads
  rw [List.filter_filter]
  refine List.filter_congr fun r _ => ?_
  rw [Bool.eq_iff_iff]
  unfold joinR
  simp only [beq_iff_eq, Bool.and_eq_true, bne_iff_ne]
  constructor
  · intro h1
    split at h1
    · subst h1
      omega
    · omega
  · rintro ⟨h1, h2⟩
    rw [if_neg (by omega)]
    omega
theorem filter_ne_length {l : List Nat} (hn : l.Nodup) {x : Nat} (hx : x ∈ l) : (l.filter (· != x)).length + 1 = l.length := by
  have e : l.filter (· != x) = l.erase x := (hn.erase_eq_filter x).symm
  rw [e, List.length_erase_of_mem hx]
  have := List.length_pos_of_mem hx
  omega
theorem Part.lt {f : Nat → Nat} (h : Part f) {n i : Nat} (hi : i < n) : f i < n := Nat.lt_of_le_of_lt (h.le i) hi
theorem minmax {f : Nat → Nat} (h : Part f) (a b : Nat) : f (min (f a) (f b)) = min (f a) (f b) ∧ f (max (f a) (f b)) = max (f a) (f b) := by
  rcases Nat.le_total (f a) (f b) with h1 | h1
  · rw [Nat.min_eq_left h1, Nat.max_eq_right h1]
    exact ⟨h.idem _, h.idem _⟩
  · rw [Nat.min_eq_right h1, Nat.max_eq_left h1]
    exact ⟨h.idem _, h.idem _⟩
theorem heads_uni {f : Nat → Nat} (h : Part f) {n : Nat} {a b : Int} (hu : uniB n f a b = true) : (heads (uniF n f a b) n).length + 1 = (heads f n).length := by
  have hu' : (inR n a = true ∧ inR n b = true) ∧ ¬ f a.toNat = f b.toNat := by simpa [uniB] using hu
  obtain ⟨⟨ha, hb⟩, hne⟩ := hu'
  have la := h.lt (in_lt ha)
  have lb := h.lt (in_lt hb)
  have mm := minmax h a.toNat b.toNat
  unfold uniF
  rw [ha, hb]
  simp only [Bool.and_self, if_true]
  unfold mergeR
  rw [heads_join mm.1 mm.2 (by omega)]
  exact filter_ne_length (heads_nodup f n) (mem_heads.2 ⟨by omega, mm.2⟩)
theorem filter_or_length {α : Type} {p q : α → Bool} (h : ∀ x, p x = true → q x = true → False) (l : List α) : (l.filter p).length + (l.filter q).length = (l.filter fun x => p x || q x).length := by
  induction l with
  | nil => rfl
  | cons x l ih =>
    have := h x
    cases hp : p x <;> cases hq : q x <;> simp_all <;> omega
theorem count_all {f : Nat → Nat} {L : List Nat} (hL : L.Nodup) (M : List Nat) : (L.map fun r => (M.filter fun k => f k == r).length).sum = (M.filter fun k => L.contains (f k)).length := by
  induction L with
  | nil =>
    rw [List.filter_eq_nil_iff.2 (by simp)]
    rfl
  | cons r L ih =>
    obtain ⟨h1, h2⟩ := List.nodup_cons.1 hL
    rw [List.map_cons, List.sum_cons, ih h2, filter_or_length]
    · rfl
    · intro x hx hy
      have hx : f x = r := by simpa using hx
      rw [hx] at hy
      exact h1 (by simpa using hy)
theorem groups_total {f : Nat → Nat} (h : Part f) (n : Nat) : ((groupsU f n).map List.length).sum = n := by
  unfold groupsU
  rw [List.map_map]
  have := count_all (f := f) (heads_nodup f n) (List.range n)
  rw [show (List.length ∘ memb f n) = fun r => ((List.range n).filter fun k => f k == r).length from rfl, this, List.filter_eq_self.2, List.length_range]
  intro k hk
  have hk : k < n := by simpa using hk
  have : f k ∈ heads f n := mem_heads.2 ⟨h.lt hk, h.idem k⟩
  simpa using this
theorem flatten_len {l : List (List Nat)} : l.flatten.length = (l.map List.length).sum := by
  induction l with
  | nil => rfl
  | cons x l ih => simp
theorem memb_head {f : Nat → Nat} (h : Part f) {n r : Nat} (hr : r ∈ heads f n) : (memb f n r).head? = some r := by
  obtain ⟨h1, h2⟩ := mem_heads.1 hr
  have hm : r ∈ memb f n r := mem_memb.2 ⟨h1, h2⟩
  rcases hl : memb f n r with _ | ⟨x, l⟩
  · rw [hl] at hm; cases hm
  · have hx : x ∈ memb f n r := by rw [hl]; simp
    have hs := memb_sorted f n r
    rw [hl] at hs hm
    rcases List.mem_cons.1 hm with h3 | h3
    · rw [h3]; rfl
    · have h4 := (List.pairwise_cons.1 hs).1 r h3
      have h5 := h.le x
      rw [(mem_memb.1 hx).2] at h5
      omega
end Go.Proofs.Ytjmhibjkbnbefaa
