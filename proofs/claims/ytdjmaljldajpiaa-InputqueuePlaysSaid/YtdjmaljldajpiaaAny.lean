/-
  WHAT IS PROVED HERE: a region that draws its order, by facts: what each operation gives is said once, whatever came ahead of it; over any program. No condition beyond what each theorem states.
-/
import Derived.Test.YtdjmaljldajpiaaStep
import Derived.RegionTactic
import Derived.StillTail
namespace Go.Proofs.Ytdjmaljldajpiaa
set_option linter.unusedVariables false
open Go.ChangeShapes Go.WideShapes Go.ChangeAt Go.RowKit

theorem name_any {P : Program} {md : Region.Mode} {ops : Array Oper} {Q : Exit → Go.Act → World → Prop} {fuel : Nat} {listed : Array Bool} {a : Go.Act} {W : World} (h : ∀ X, X = W → wpAny P md ops Q fuel listed a X) : wpAny P md ops Q fuel listed a W := h W rfl

/-- What is done, as a function. -/
def lst (listed : Array Bool) (i : Nat) : Bool := listed.getD i true
def upd (L : Nat → Bool) (i : Nat) : Nat → Bool := fun j => if j = i then true else L j
/-- The operations that i waits for. -/
def depsOf (md : Region.Mode) (ops : Array Oper) (i : Nat) : List Nat := ((ops[i]?).map fun o => (o.after.toList.filter (Region.binds md)).map (·.on)).getD []
def AllL (L : Nat → Bool) : List Nat → Prop
  | [] => True
  | d :: ds => L d = true ∧ AllL L ds
theorem allL_of {L : Nat → Bool} : ∀ {ds : List Nat}, (∀ d ∈ ds, L d = true) → AllL L ds
  | [], _ => trivial
  | d :: ds, h => ⟨h d (List.mem_cons_self ..), allL_of fun x hx => h x (List.mem_cons_of_mem _ hx)⟩
/-- Every operation waits for earlier ones alone. -/
def backB (md : Region.Mode) (ops : Array Oper) : Bool := (List.range ops.size).all fun i => (depsOf md ops i).all (· < i)
def todoB (ops : Array Oper) (listed : Array Bool) (todo : List Nat) : Bool := (List.range ops.size).all fun i => listed.getD i true || todo.contains i

section
variable {P : Program} {md : Region.Mode} {ops : Array Oper} {Q : Exit → Go.Act → World → Prop}
/-- What each operation of a list does to the facts. -/
def Steps (P : Program) (md : Region.Mode) (ops : Array Oper) (Q : Exit → Go.Act → World → Prop) (I : (Nat → Bool) → Go.Act → World → Prop) (todo : List Nat) : Prop :=
  ∀ i ∈ todo, ∀ (L : Nat → Bool) (a : Go.Act) (w : World), L i = false → (∀ j ∈ depsOf md ops i, L j = true) → I L a w → wpOp P ops Q i (I (upd L i)) a w
theorem Steps.nil {I : (Nat → Bool) → Go.Act → World → Prop} : Steps P md ops Q I [] := fun _ h => by cases h
theorem Steps.cons {I : (Nat → Bool) → Go.Act → World → Prop} {i : Nat} {o : Oper} {todo : List Nat} (ds : List Nat) (ho : ops[i]? = some o) (hd : depsOf md ops i = ds)
    (h : ∀ (L : Nat → Bool) (a : Go.Act) (w : World), L i = false → AllL L ds → I L a w → ∀ K : Go.Act → World → Prop, (∀ a w, I (upd L i) a w → K a w) → if Region.wanted o (yielded ops a.tmps) = true then Oper.wp P o a w K Q else K (a.put o.dst undef) w)
    (hs : Steps P md ops Q I todo) : Steps P md ops Q I (i :: todo) := fun j hj L a w h0 h1 hI => by
  rcases List.mem_cons.1 hj with rfl | hj
  · exact wpOp_step ho fun K hK => h L a w h0 (allL_of (hd ▸ h1)) hI K hK
  · exact hs j hj L a w h0 h1 hI
theorem ready_none {listed : Array Bool} (hb : backB md ops = true) (hz : listed.size = ops.size) (hr : Region.ready md ops listed = []) : ∀ i, i < ops.size → listed.getD i true = true := by
  intro i
  induction i using Nat.strongRecOn with
  | _ i ih =>
    intro hi
    cases hl : listed.getD i true with
    | true => rfl
    | false =>
      have h1 : i ∈ Region.ready md ops listed := by
        rw [mem_ready]
        refine ⟨hl, ops[i], Array.getElem?_eq_getElem hi, fun e he hbd => ?_⟩
        have h2 := List.all_eq_true.1 hb i (List.mem_range.2 hi)
        have h3 : e.on ∈ depsOf md ops i := by
          unfold depsOf
          rw [Array.getElem?_eq_getElem hi]
          simp only [Option.map_some, Option.getD_some]
          exact List.mem_map_of_mem (List.mem_filter.2 ⟨Array.mem_toList_iff.2 he, hbd⟩)
        have h4 : e.on < i := by simpa using List.all_eq_true.1 h2 _ h3
        have h5 := ih e.on h4 (by omega)
        have h6 : e.on < listed.size := by omega
        simp [h6] at h5 ⊢
        exact h5
      rw [hr] at h1
      cases h1
theorem count_set {l : Array Bool} {i : Nat} {k : Nat} (h : l.getD i true = false) (hk : l.toList.count false ≤ k + 1) : (l.setIfInBounds i true).toList.count false ≤ k := by
  have hi : i < l.size := by
    rcases Nat.lt_or_ge i l.size with h' | h'
    · exact h'
    · simp [Array.getElem?_eq_none h'] at h
  have hv : l[i] = false := by simpa [hi] using h
  rw [Array.toList_setIfInBounds, List.count_set (by simpa using hi)]
  have hv' : l.toList[i]'(by simpa using hi) = false := by simpa using hv
  rw [hv']
  have h3 : ((true == false) = true) = False := by simp
  have h4 : ((false == false) = true) = True := by simp
  simp only [h3, h4, if_true, if_false]
  omega
theorem wpAny_facts (I : (Nat → Bool) → Go.Act → World → Prop) (todo : List Nat) (hb : backB md ops = true) (hs : Steps P md ops Q I todo) (hdone : ∀ L a w, (∀ i, i < ops.size → L i = true) → I L a w → Q .normal a w) :
    ∀ (fuel : Nat) (listed : Array Bool) (a : Go.Act) (w : World), listed.size = ops.size → listed.toList.count false ≤ fuel → todoB ops listed todo = true → I (lst listed) a w → wpAny P md ops Q fuel listed a w
  | 0, listed, a, w, hz, hc, _, hI => by
    have hall : ∀ i, listed.getD i true = true := fun i => by
      cases hl : listed.getD i true with
      | true => rfl
      | false =>
        have hi : i < listed.size := by
          rcases Nat.lt_or_ge i listed.size with h' | h'
          · exact h'
          · simp [Array.getElem?_eq_none h'] at hl
        have hv : listed[i] = false := by simpa [hi] using hl
        have : false ∈ listed.toList := by rw [← hv]; exact Array.mem_toList_iff.2 (Array.getElem_mem hi)
        have := List.count_pos_iff.2 this
        omega
    refine ⟨?_, hdone _ _ _ (fun i _ => hall i) hI⟩
    refine List.eq_nil_iff_forall_not_mem.2 fun i hi => ?_
    have := (mem_ready.1 hi).1
    rw [hall i] at this
    cases this
  | fuel + 1, listed, a, w, hz, hc, ht, hI => by
    refine ⟨fun hr => hdone _ _ _ (ready_none hb hz hr) hI, fun i hi => ?_⟩
    obtain ⟨h0, o, ho, hall⟩ := mem_ready.1 hi
    have hlt : i < ops.size := (Array.getElem?_eq_some_iff.1 ho).1
    have hm : i ∈ todo := by
      have := List.all_eq_true.1 ht i (List.mem_range.2 hlt)
      rw [h0] at this
      simpa using this
    have hd : ∀ j ∈ depsOf md ops i, lst listed j = true := fun j hj => by
      unfold depsOf at hj
      rw [ho] at hj
      simp only [Option.map_some, Option.getD_some] at hj
      obtain ⟨e, he, rfl⟩ := List.mem_map.1 hj
      obtain ⟨he, hbd⟩ := List.mem_filter.1 he
      have h2 := hall e (Array.mem_toList_iff.1 he) hbd
      unfold lst
      cases h3 : listed.getD e.on true with
      | true => rfl
      | false => rw [getD_both h3] at h2; cases h2
    refine wpOp_mono (fun a' w' h' => ?_) (hs i hm (lst listed) a w h0 hd hI)
    refine wpAny_facts I todo hb hs hdone fuel (listed.setIfInBounds i true) a' w' (by simpa using hz) (count_set h0 hc) ?_ ?_
    · refine List.all_eq_true.2 fun j hj => ?_
      have := List.all_eq_true.1 ht j hj
      by_cases hij : i = j
      · subst hij
        simp [show i < listed.size by omega]
      · rw [getD_set_ne true hij]; exact this
    · have : lst (listed.setIfInBounds i true) = upd (lst listed) i := by
        funext j
        unfold lst upd
        by_cases hij : j = i
        · subst hij
          rw [if_pos rfl]
          simp [show j < listed.size by omega]
        · rw [if_neg hij, getD_set_ne true (Ne.symm hij)]
      rw [this]
      exact h'
/-- the same, its conditions as one -/
theorem wpAny_by (I : (Nat → Bool) → Go.Act → World → Prop) (todo : List Nat) {fuel : Nat} {listed : Array Bool} {a : Go.Act} {w : World} (hb : backB md ops = true) (hc : (decide (listed.size = ops.size) && (decide (listed.toList.count false ≤ fuel) && todoB ops listed todo)) = true)
    (hI : I (lst listed) a w) (hs : Steps P md ops Q I todo) (hdone : ∀ L a w, (∀ i, i < ops.size → L i = true) → I L a w → Q .normal a w) : wpAny P md ops Q fuel listed a w := by
  simp only [Bool.and_eq_true, decide_eq_true_eq] at hc
  exact wpAny_facts I todo hb hs hdone fuel listed a w hc.1 hc.2.1 hc.2.2 hI
theorem Steps.go {I : (Nat → Bool) → Go.Act → World → Prop} {i : Nat} {o : Oper} {todo : List Nat} (ho : ops[i]? = some o)
    (h : ∀ (L : Nat → Bool) (a : Go.Act) (w : World), L i = false → (∀ j, (depsOf md ops i).contains j = true → L j = true) → I L a w → ∀ K : Go.Act → World → Prop, (∀ a w, I (upd L i) a w → K a w) → if Region.wanted o (yielded ops a.tmps) = true then Oper.wp P o a w K Q else K (a.put o.dst undef) w)
    (hs : Steps P md ops Q I todo) : Steps P md ops Q I (i :: todo) := fun j hj L a w h0 h1 hI => by
  rcases List.mem_cons.1 hj with rfl | hj
  · exact wpOp_step ho fun K hK => h L a w h0 (fun j hj => h1 j (List.contains_iff_mem.1 hj)) hI K hK
  · exact hs j hj L a w h0 h1 hI
/-- the same, the facts said of the frame at hand -/
theorem wpAny_go (I : Go.Act → (Nat → Bool) → Go.Act → World → Prop) (todo : List Nat) {fuel : Nat} {listed : Array Bool} {a : Go.Act} {w : World} (hb : backB md ops = true) (hc : (decide (listed.size = ops.size) && (decide (listed.toList.count false ≤ fuel) && todoB ops listed todo)) = true)
    (hI : I a (lst listed) a w) (hs : Steps P md ops Q (I a) todo) (hdone : ∀ L a' w', (∀ i, i < ops.size → L i = true) → I a L a' w' → Q .normal a' w') : wpAny P md ops Q fuel listed a w := wpAny_by (I a) todo hb hc hI hs hdone
end
/-- A frame with some slots laid anew. -/
def fr (A : Go.Act) (l : List (Nat × Value)) : Go.Act := l.foldl (fun a x => a.put (some x.1) x.2) A
theorem no_yet {b : Bool} {p : Prop} (h : b = false) : b = true → p := fun h' => by rw [h] at h'; cases h'
end Go.Proofs.Ytdjmaljldajpiaa
