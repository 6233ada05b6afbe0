/-
  WHAT IS PROVED HERE: the walk of the law UnionfindMerge: it returns true at every input, and leaves old memory as it was. Conditions: the arguments' lengths are a machine's.
-/
import Derived.Test.YtjmhibjkbnbefaaUfH
namespace Go.Proofs.Ytjmhibjkbnbefaa
set_option linter.unusedVariables false
open Go.ChangeShapes Go.WideShapes Go.ChangeAt Go.RowKit

theorem intsI_inj {l m : List Nat} (h : intsI l = intsI m) : l = m := by
  have hl : l.length = m.length := by have := congrArg List.length h; simpa [intsI] using this
  refine List.ext_getElem hl fun k h1 h2 => ?_
  have := congrArg (fun (x : List Int) => x[k]?) h
  simp [intsI, h1, h2] at this
  omega
theorem mem_intsI {l : List Nat} {x : Nat} : (x : Int) ∈ intsI l ↔ x ∈ l := by
  constructor
  · intro h
    obtain ⟨y, hy, he⟩ := List.mem_map.1 h
    have : y = x := by omega
    subst this
    exact hy
  · intro h
    exact List.mem_map.2 ⟨x, h, rfl⟩
/-- Which groups are there still. -/
theorem group_stays {f : Nat → Nat} (hP : Part f) {K lo hi r : Nat} (hlo : f lo = lo) (hhi : f hi = hi) (hl : lo < hi) (hh : hi < K) (hr : r ∈ heads f K) :
    intsI (memb f K r) ∈ groupsI (joinR f lo hi) K ↔ r ≠ lo ∧ r ≠ hi := by
  have jlo : joinR f lo hi lo = lo := by unfold joinR; rw [hlo, if_neg (by omega)]
  have jhi : joinR f lo hi hi = lo := by unfold joinR; rw [hhi, if_pos rfl]
  constructor
  · intro h
    simp only [groupsI, groupsU, List.map_map, List.mem_map, Function.comp] at h
    obtain ⟨r', hr', he⟩ := h
    have he := intsI_inj he
    refine ⟨?_, ?_⟩
    · intro e
      subst e
      have h1 : r ∈ memb (joinR f r hi) K r' := by rw [he]; exact mem_memb.2 ⟨by omega, hlo⟩
      have h2 := (mem_memb.1 h1).2
      rw [jlo] at h2
      subst h2
      have h3 : hi ∈ memb (joinR f r hi) K r := mem_memb.2 ⟨hh, jhi⟩
      rw [he] at h3
      have := (mem_memb.1 h3).2
      omega
    · intro e
      subst e
      have h1 : r ∈ memb (joinR f lo r) K r' := by rw [he]; exact mem_memb.2 ⟨hh, hhi⟩
      have h2 := (mem_memb.1 h1).2
      rw [jhi] at h2
      subst h2
      have h3 : lo ∈ memb (joinR f lo r) K lo := mem_memb.2 ⟨by omega, jlo⟩
      rw [he] at h3
      have := (mem_memb.1 h3).2
      omega
  · rintro ⟨h1, h2⟩
    have hr2 := mem_heads.1 hr
    simp only [groupsI, groupsU, List.map_map, List.mem_map, Function.comp]
    refine ⟨r, mem_heads.2 ⟨hr2.1, by unfold joinR; rw [hr2.2, if_neg h2]⟩, ?_⟩
    congr 1
    unfold memb
    refine List.filter_congr fun k _ => ?_
    rw [Bool.eq_iff_iff]
    unfold joinR
    simp only [beq_iff_eq]
    split <;> omega
/-- What one more edge does to the groups. -/
structure MergeFacts (G G' : List (List Int)) (x y : Int) : Prop where
  fresh : ∀ r ∈ G, ¬ r ∈ G' → (decide (x ∈ r) == decide (y ∈ r)) = false
  fin : ((G.filter fun r => !decide (r ∈ G')).length = 0 ∧ G'.length = G.length) ∨ ((G.filter fun r => !decide (r ∈ G')).length = 2 ∧ G'.length + 1 = G.length)
theorem merge_facts {f : Nat → Nat} (hP : Part f) (K : Nat) (x y : Int) : MergeFacts (groupsI f K) (groupsI (uniF K f x y) K) x y := by
  rcases hu : uniB K f x y with _ | _
  · rw [uni_not hu]
    refine ⟨fun r hr hn => absurd hr hn, .inl ⟨?_, rfl⟩⟩
    rw [List.filter_eq_nil_iff.2]
    · rfl
    · intro r hr
      simp [hr]
  · have hlen := heads_uni hP hu
    have hu' : (inR K x = true ∧ inR K y = true) ∧ ¬ f x.toNat = f y.toNat := by simpa [uniB] using hu
    obtain ⟨⟨hx, hy⟩, hne⟩ := hu'
    have lx := in_lt hx
    have ly := in_lt hy
    have fx := hP.lt lx
    have fy := hP.lt ly
    have mm := minmax hP x.toNat y.toNat
    have hF : uniF K f x y = joinR f (min (f x.toNat) (f y.toNat)) (max (f x.toNat) (f y.toNat)) := by
      unfold uniF
      rw [hx, hy]
      rfl
    have hst := fun r (hr : r ∈ heads f K) => group_stays hP mm.1 mm.2 (by omega) (by omega) hr
    rw [← hF] at hst
    have xr : 0 ≤ x := by have : 0 ≤ x ∧ x < K := by simpa [inR] using hx
                          exact this.1
    have yr : 0 ≤ y := by have : 0 ≤ y ∧ y < K := by simpa [inR] using hy
                          exact this.1
    refine ⟨fun r hr hn => ?_, .inr ⟨?_, ?_⟩⟩
    · simp only [groupsI, groupsU, List.map_map, List.mem_map, Function.comp] at hr
      obtain ⟨r, hr, rfl⟩ := hr
      have h1 : ¬ (r ≠ min (f x.toNat) (f y.toNat) ∧ r ≠ max (f x.toNat) (f y.toNat)) := fun h => hn ((hst r hr).2 h)
      have ex : (x ∈ intsI (memb f K r)) ↔ f x.toNat = r := by
        conv => lhs; rw [show x = ((x.toNat : Nat) : Int) from by omega]
        rw [mem_intsI, mem_memb]
        exact ⟨fun h => h.2, fun h => ⟨lx, h⟩⟩
      have ey : (y ∈ intsI (memb f K r)) ↔ f y.toNat = r := by
        conv => lhs; rw [show y = ((y.toNat : Nat) : Int) from by omega]
        rw [mem_intsI, mem_memb]
        exact ⟨fun h => h.2, fun h => ⟨ly, h⟩⟩
      by_cases h2 : f x.toNat = r
      · have h3 : ¬ f y.toNat = r := by omega
        rw [decide_eq_true (ex.2 h2), decide_eq_false (fun h => h3 (ey.1 h))]
        rfl
      · have h3 : f y.toNat = r := by omega
        rw [decide_eq_false (fun h => h2 (ex.1 h)), decide_eq_true (ey.2 h3)]
        rfl
    · have e1 : (groupsI f K).filter (fun r => !decide (r ∈ groupsI (uniF K f x y) K)) = ((heads f K).filter fun r => !((r != min (f x.toNat) (f y.toNat)) && (r != max (f x.toNat) (f y.toNat)))).map fun r => intsI (memb f K r) := by
        simp only [groupsI, groupsU, List.map_map]
        rw [List.filter_map]
        simp only [Function.comp_def]
        congr 1
        refine List.filter_congr fun r hr => ?_
        have h := hst r hr
        simp only [groupsI, groupsU, List.map_map, Function.comp_def] at h
        rw [Bool.eq_iff_iff]
        simp only [Bool.not_eq_true', decide_eq_false_iff_not, Bool.and_eq_false_iff, bne_eq_false_iff_eq]
        rw [h]
        omega
      rw [e1, List.length_map]
      have hN := heads_nodup f K
      have c1 := filter_ne_length hN (mem_heads.2 ⟨by omega, mm.1⟩ : min (f x.toNat) (f y.toNat) ∈ heads f K)
      have c2 := filter_ne_length (hN.filter (· != min (f x.toNat) (f y.toNat))) (x := max (f x.toNat) (f y.toNat)) (List.mem_filter.2 ⟨mem_heads.2 ⟨by omega, mm.2⟩, by simp; omega⟩)
      rw [List.filter_filter] at c2
      have c3 := filter_or_length (p := fun r => !((r != min (f x.toNat) (f y.toNat)) && (r != max (f x.toNat) (f y.toNat)))) (q := fun r => (r != max (f x.toNat) (f y.toNat)) && (r != min (f x.toNat) (f y.toNat))) (fun r h1 h2 => by simp_all) (heads f K)
      have c4 : (heads f K).filter (fun r => !((r != min (f x.toNat) (f y.toNat)) && (r != max (f x.toNat) (f y.toNat))) || ((r != max (f x.toNat) (f y.toNat)) && (r != min (f x.toNat) (f y.toNat)))) = heads f K := List.filter_eq_self.2 (fun r _ => by
        cases (r != min (f x.toNat) (f y.toNat)) <;> cases (r != max (f x.toNat) (f y.toNat)) <;> rfl)
      rw [c4] at c3
      omega
    · rw [groupsI_len, groupsI_len]
      exact hlen

theorem sameints_is (A A' : Option Addr) (n c n' c' : Nat) (l l' : List Int) (w : World) (q : Bool) (rd : Rd w w.heap.size 1 A n (l.map (Value.int .i64))) (rd' : Rd w w.heap.size 1 A' n' (l'.map (Value.int .i64))) (hn : n ≤ 1000000000000) (hn' : n' ≤ 1000000000000) (hq : decide (l = l') = q) :
    Calls Try.prog 19 #[.slice A n c, .slice A' n' c'] w fun e w' => e = .returned (.bool q) ∧ Below w.heap.size w w' := by
  subst hq
  exact sameints_any A A' n c n' c' l l' w rd rd' hn hn'
theorem mem_take_step {l : List (List Int)} {x d : List Int} {j : Nat} (h : j < l.length) : decide (x ∈ l.take (j + 1)) = (decide (x ∈ l.take j) || decide (x = l.getD j d)) := by
  rw [Bool.eq_iff_iff, Bool.or_eq_true, decide_eq_true_iff, decide_eq_true_iff, decide_eq_true_iff, List.take_succ_eq_append_getElem h, List.mem_append, List.mem_singleton, show l.getD j d = l[j] from by simp [List.getD_eq_getElem?_getD, h]]
@[irreducible] def hasB (l : List Int) (x : Int) : Bool := decide (x ∈ l)
theorem hasB_eq (l : List Int) (x : Int) : hasB l x = decide (x ∈ l) := by unfold hasB; rfl
theorem has_b (A : Option Addr) (n c : Nat) (l : List Int) (x : Int) (w : World) (hn : n ≤ 1000000000000) (rd : Rd w w.heap.size 1 A n (l.map (Value.int .i64))) :
    Calls Try.prog 18 #[.slice A n c, .int .i64 x] w fun e w' => e = .returned (.bool (hasB l x)) ∧ w = w' := by
  rw [hasB_eq]
  exact has_any A n c l x w hn rd
theorem filter_take_step {α : Type} {l : List α} {p : α → Bool} {d : α} {j : Nat} (h : j < l.length) : ((l.take (j + 1)).filter p).length = ((l.take j).filter p).length + if p (l.getD j d) then 1 else 0 := by
  rw [List.take_succ_eq_append_getElem h, List.filter_append, List.length_append]
  congr 1
  simp only [List.getD_eq_getElem?_getD, List.getElem?_eq_getElem h, Option.getD_some]
  by_cases hp : p l[j] = true <;> simp [hp]
end Go.Proofs.Ytjmhibjkbnbefaa
