/-
  WHAT IS PROVED HERE: a region that draws its order, by facts, each operation laid out by itself; over any program. No condition beyond what each theorem states.
-/
import Derived.Test.YtdjmaljldajpiaaAny
namespace Go.Proofs.Ytdjmaljldajpiaa
set_option linter.unusedVariables false
open Go.ChangeShapes Go.WideShapes Go.ChangeAt Go.RowKit

section
variable {P : Program} {md : Region.Mode} {ops : Array Oper} {Q : Exit → Go.Act → World → Prop}
theorem allL_deps {L : Nat → Bool} {ds all : List Nat} (h : (ds.all fun j => all.contains j) = true) (hL : ∀ j ∈ all, L j = true) : AllL L ds :=
  allL_of fun d hd => hL d (List.contains_iff_mem.1 (List.all_eq_true.1 h d hd))
theorem Steps.plain {I : (Nat → Bool) → Go.Act → World → Prop} {i : Nat} {o : Oper} {todo : List Nat} (ds : List Nat) (ho : ops[i]? = some o) (hg : o.guard = none) (hds : (ds.all fun j => (depsOf md ops i).contains j) = true)
    (h : ∀ (L : Nat → Bool) (a : Go.Act) (w : World), L i = false → AllL L ds → I L a w → ∀ K : Go.Act → World → Prop, (∀ a w, I (upd L i) a w → K a w) → Oper.wp P o a w K Q)
    (hs : Steps P md ops Q I todo) : Steps P md ops Q I (i :: todo) := fun j hj L a w h0 h1 hI => by
  rcases List.mem_cons.1 hj with rfl | hj
  · refine wpOp_step ho fun K hK => ?_
    rw [if_pos (by simp [Region.wanted, hg])]
    exact h L a w h0 (allL_deps hds h1) hI K hK
  · exact hs j hj L a w h0 h1 hI
theorem wanted_of {o : Oper} {g : Nat} {b : Bool} {d : Tmp} {t : Array Value} {c : Bool} (hg : o.guard = some (g, b)) (hd : (ops[g]?).bind (·.dst) = some d) (ht : t[d]? = some (.bool c)) : Region.wanted o (yielded ops t) = (c == b) := by
  unfold Region.wanted yielded
  rw [hg]
  simp only [hd, Option.bind_some, ht]
  cases b <;> cases c <;> rfl
theorem Steps.on {I : (Nat → Bool) → Go.Act → World → Prop} {i : Nat} {o : Oper} {todo : List Nat} (ds : List Nat) (ho : ops[i]? = some o) (g : Nat) (b : Bool) (d : Tmp) (hg : o.guard = some (g, b)) (hd : (ops[g]?).bind (·.dst) = some d) (hds : (ds.all fun j => (depsOf md ops i).contains j) = true)
    (h : ∀ (L : Nat → Bool) (a : Go.Act) (w : World), L i = false → AllL L ds → I L a w → ∀ K : Go.Act → World → Prop, (∀ a w, I (upd L i) a w → K a w) → a.tmps[d]? = some (.bool b) ∧ Oper.wp P o a w K Q)
    (hs : Steps P md ops Q I todo) : Steps P md ops Q I (i :: todo) := fun j hj L a w h0 h1 hI => by
  rcases List.mem_cons.1 hj with rfl | hj
  · refine wpOp_step ho fun K hK => ?_
    obtain ⟨h2, h3⟩ := h L a w h0 (allL_deps hds h1) hI K hK
    rw [if_pos (by rw [wanted_of hg hd h2]; simp)]
    exact h3
  · exact hs j hj L a w h0 h1 hI
theorem Steps.off {I : (Nat → Bool) → Go.Act → World → Prop} {i : Nat} {o : Oper} {todo : List Nat} (ds : List Nat) (ho : ops[i]? = some o) (g : Nat) (b : Bool) (d : Tmp) (hg : o.guard = some (g, b)) (hd : (ops[g]?).bind (·.dst) = some d) (hds : (ds.all fun j => (depsOf md ops i).contains j) = true)
    (h : ∀ (L : Nat → Bool) (a : Go.Act) (w : World), L i = false → AllL L ds → I L a w → ∀ K : Go.Act → World → Prop, (∀ a w, I (upd L i) a w → K a w) → a.tmps[d]? = some (.bool (!b)) ∧ K (a.put o.dst undef) w)
    (hs : Steps P md ops Q I todo) : Steps P md ops Q I (i :: todo) := fun j hj L a w h0 h1 hI => by
  rcases List.mem_cons.1 hj with rfl | hj
  · refine wpOp_step ho fun K hK => ?_
    obtain ⟨h2, h3⟩ := h L a w h0 (allL_deps hds h1) hI K hK
    rw [if_neg (by rw [wanted_of hg hd h2]; cases b <;> simp)]
    exact h3
  · exact hs j hj L a w h0 h1 hI
end
end Go.Proofs.Ytdjmaljldajpiaa
