/-
  WHAT IS PROVED HERE: steps of a region that draws its order: any operation by its own law, a slice literal of one whole element, a whole value loaded; over any program. No condition beyond what each theorem states.
-/
import Derived.Test.YtdjmaljldajpiaaApp
import Derived.Deep.MidRow
import Derived.Deep.WholeRow
import Derived.Great.BuildSlice
namespace Go.Proofs.Ytdjmaljldajpiaa
set_option linter.unusedVariables false
open Go.ChangeShapes Go.WideShapes Go.ChangeAt Go.RowKit

theorem fold_set_get (l : List Value) : ∀ (s : Nat) (base : Array Value) (i : Nat), i < base.size → ((l.zipIdx s).foldl (fun a x => a.setIfInBounds (0 + x.2) x.1) base)[i]? = if s ≤ i ∧ i < s + l.length then l[i - s]? else base[i]? := by
  induction l with
  | nil =>
    intro s base i hi
    simp
    intro h1 h2
    omega
  | cons x l ih =>
    intro s base i hi
    rw [List.zipIdx_cons, List.foldl_cons, ih (s + 1) _ i (by simpa using hi)]
    simp only [Nat.zero_add, List.length_cons]
    by_cases h1 : s + 1 ≤ i ∧ i < s + 1 + l.length
    · rw [if_pos h1, if_pos (by omega), show i - s = (i - (s + 1)) + 1 from by omega, List.getElem?_cons_succ]
    · rw [if_neg h1]
      by_cases h2 : s = i
      · subst h2
        rw [if_pos (by omega), Nat.sub_self, Array.getElem?_setIfInBounds_self_of_lt hi]
        rfl
      · rw [if_neg (by omega), Array.getElem?_setIfInBounds_ne h2]
theorem fold_set_size (l : List Value) : ∀ (s : Nat) (base : Array Value), ((l.zipIdx s).foldl (fun a x => a.setIfInBounds (0 + x.2) x.1) base).size = base.size := by
  induction l with
  | nil => intro s base; rfl
  | cons x l ih => intro s base; rw [List.zipIdx_cons, List.foldl_cons, ih]; simp
theorem fold_set (cs base : Array Value) (h : base.size = cs.size) : cs.zipIdx.foldl (fun a x => a.setIfInBounds (0 + x.2) x.1) base = cs := by
  rw [← Array.foldl_toList, Array.toList_zipIdx]
  refine Array.ext_getElem? fun i => ?_
  rcases Nat.lt_or_ge i base.size with hi | hi
  · rw [fold_set_get _ 0 base i hi, if_pos (by simp; omega)]
    simp
  · rw [Array.getElem?_eq_none (by rw [fold_set_size]; exact hi), Array.getElem?_eq_none (by omega)]
theorem fill_one (cs base : Array Value) (size : Nat) (hb : base.size = size) (hc : cs.size = size) : Instr.fill (fun i => some (i * size, size)) base [(0, .agg cs)] = some cs := by
  unfold Instr.fill
  simp only [Nat.zero_mul, Value.cells]
  rw [if_neg (by simp [hb, hc])]
  unfold Instr.fill
  rw [fold_set cs base (by omega)]

section
variable {P : Program}
theorem run_build1 (w : World) {t e : TypeId} {size bytes : Nat} (T : SlT P t e size bytes) (hs : size ≤ 1000000) (cs : Array Value) (hc : cs.size = size) :
    (Instr.buildSlice t 1 #[(0, .agg cs)]).run P w = .ok (.slice (some ⟨w.heap.size, 0, none⟩) 1 1) (w.alloc (.cells cs e)) := by
  obtain ⟨i, z, hi, hz, h2, h3, h4⟩ := T.ex
  have := T.hsz
  refine run_buildSlice w t e 1 _ cs i z T.ht hi hz (by rw [h2]; omega) (by rw [h2]; omega) ?_
  rw [h2]
  exact fill_one cs _ size (by simp) hc
theorem wp_build1 {o : Oper} {a : Act} {w : World} {K : Act → World → Prop} {Q : Exit → Act → World → Prop} (x : Operand) {t e : TypeId} {size bytes : Nat} (T : SlT P t e size bytes) (ho : o.op = .buildSlice t 1 #[(0, x)]) (hs : size ≤ 1000000) (cs : Array Value) (hx : a.eval x = .agg cs) (hc : cs.size = size)
    (h : K (a.put o.dst (.slice (some ⟨w.heap.size, 0, none⟩) 1 1)) (w.alloc (.cells cs e))) : o.wp P a w K Q := by
  obtain ⟨i, z, hi, hz, h2, h3, h4⟩ := T.ex
  have := T.hsz
  refine wp_buildSlice t e 1 _ ho cs i z T.ht hi hz (by rw [h2]; omega) (by rw [h2]; omega) ?_ h
  rw [h2]
  have e : (Array.map (fun (p : Nat × Operand) => (p.1, a.eval p.2)) #[(0, x)]).toList = [(0, .agg cs)] := by simp [hx]
  rw [e]
  exact fill_one cs _ size (by simp) hc
theorem wpList_build1 {ops : Array Oper} {rest : List Oper} {o : Oper} {a : Act} {w : World} {Q : Exit → Act → World → Prop} (hg : o.guard = none) (x : Operand) {t e : TypeId} {size bytes : Nat} (T : SlT P t e size bytes) (ho : o.op = .buildSlice t 1 #[(0, x)]) (hs : size ≤ 1000000) (cs : Array Value) (hx : a.eval x = .agg cs) (hc : cs.size = size)
    (h : wpList P ops Q rest (a.put o.dst (.slice (some ⟨w.heap.size, 0, none⟩) 1 1)) (w.alloc (.cells cs e))) : wpList P ops Q (o :: rest) a w :=
  wpList_plain hg fun _ hK => wp_build1 x T ho hs cs hx hc (hK _ _ h)
/-- Any operation that is not guarded, as a step of a region that draws. -/
theorem step_of {ops : Array Oper} {o : Oper} {a : Act} {w : World} {K : Act → World → Prop} {Q : Exit → Act → World → Prop} {E : Prop} (hgd : o.guard = none) (h : o.wp P a w K Q) : if Region.wanted o (yielded ops a.tmps) = true then Oper.wp P o a w K Q else E := by
  rw [if_pos (by simp [Region.wanted, hgd])]
  exact h
theorem take_at {md : Region.Mode} {ops : Array Oper} {Q : Exit → Act → World → Prop} {i : Nat} {oi : Oper} {v : Value} {fuel : Nat} {listed : Array Bool} {a : Act} {w : World} (d : Option Tmp) (hi : ops[i]? = some oi) (hd : oi.dst = d)
    (hs : Region.noSelect ops = true) (hf : Region.free md ops listed i = true) (hr : (Region.ready md ops listed).contains i = true) (hQ : ∀ c a w, Q (.panic c) (a.put d v) w → Q (.panic c) a w) (hy : Yields P ops oi v a)
    (h : wpAny P md ops Q fuel (listed.setIfInBounds i true) (a.put d v) w) : wpAny P md ops Q (fuel + 1) listed a w := by
  subst hd
  exact wpAny_take hi hs hf hr hQ hy h
theorem step_build1 {ops : Array Oper} {o : Oper} {a : Act} {w : World} {K : Act → World → Prop} {Q : Exit → Act → World → Prop} {E : Prop} (hgd : o.guard = none) (x : Operand) {t e : TypeId} {size bytes : Nat} (T : SlT P t e size bytes) (ho : o.op = .buildSlice t 1 #[(0, x)]) (hs : size ≤ 1000000) (cs : Array Value) (hx : a.eval x = .agg cs) (hc : cs.size = size)
    (h : K (a.put o.dst (.slice (some ⟨w.heap.size, 0, none⟩) 1 1)) (w.alloc (.cells cs e))) : if Region.wanted o (yielded ops a.tmps) = true then Oper.wp P o a w K Q else E := step_of hgd (wp_build1 x T ho hs cs hx hc h)
theorem step_load_mid {ops : Array Oper} {o : Oper} {a : Act} {w : World} {K : Act → World → Prop} {Q : Exit → Act → World → Prop} {E : Prop} (hgd : o.guard = none) (ty : TypeId) (x : Operand) (ho : o.op = .load ty x)
    (b off : Nat) (hx : a.eval x = .pointer (some ⟨b, off, none⟩)) (cs : List Value) (d : TypeDesc) (hc : w.rangeAt b off cs) (hu : P.underlying ty = some d) (hd : d.isRow = true) (hi : (P.info? ty).map (·.size) = some cs.length)
    (h : K (a.put o.dst (.agg cs.toArray)) w) : if Region.wanted o (yielded ops a.tmps) = true then Oper.wp P o a w K Q else E := step_of hgd (wp_load_mid ty x ho b off hx cs d hc hu hd hi h)
end
end Go.Proofs.Ytdjmaljldajpiaa
