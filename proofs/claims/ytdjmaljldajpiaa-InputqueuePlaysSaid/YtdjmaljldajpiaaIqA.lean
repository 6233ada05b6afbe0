/-
  WHAT IS PROVED HERE: a queue of inputs in memory, and the contracts of package inputqueue's New and Next. No condition beyond what each theorem states.
-/
import Derived.Test.YtdjmaljldajpiaaFlat
import Derived.Test.YtdjmaljldajpiaaMapV
import Derived.Deep.MidRow
import Derived.Deep.WholeRow
namespace Go.Proofs.Ytdjmaljldajpiaa
set_option linter.unusedVariables false
open Go.ChangeShapes Go.WideShapes Go.ChangeAt Go.RowKit
open Go.Maps (Keyed)

/-- A whole value goes into the variable that was made last. -/
theorem wpList_store_new {P : Program} {ops : Array Oper} {rest : List Oper} {op : Oper} {a : Act} {W : World} {Q : Exit → Act → World → Prop} (hgd : op.guard = none) (ty : TypeId) (x y : Operand) (ho : op.op = .store ty x y)
    (c c' : Array Value) (hx : a.eval x = .pointer (some ⟨W.heap.size, 0, none⟩)) (hy : a.eval y = .agg c') (hi : (P.info? ty).map (·.size) = some c'.size) (hs : c.size = c'.size) (h1 : c'.all (·.oneCell') = true)
    (h : wpList P ops Q rest (a.put op.dst undef) (W.alloc (.cells c' ty))) : wpList P ops Q (op :: rest) a (W.alloc (.cells c ty)) :=
  wpList_plain hgd fun _ hK => by
    unfold Oper.wp execOp
    simp only [ho, hx, hy, run_storeAt_new W ty c c' hi hs h1, Sem.run_bind, Result.andThen_ok, Sem.run_pure]
    exact hK _ _ h

/-- Blocks of d cells each, in a row. -/
theorem block_get {α : Type} (f : α → List Value) (d : Nat) (hf : ∀ x, (f x).length = d) (l : List α) {i j : Nat} (hi : i < l.length) (hj : j < d) : (l.flatMap f)[i * d + j]? = (f l[i])[j]? := by
  induction l generalizing i with
  | nil => simp at hi
  | cons x l ih =>
    rw [List.flatMap_cons]
    rcases i with _ | i
    · rw [Nat.zero_mul, Nat.zero_add, List.getElem?_append_left (by rw [hf]; exact hj)]
      rfl
    · have hi' : i < l.length := by simpa using hi
      rw [show (i + 1) * d + j = (i * d + j) + (f x).length from by rw [hf, Nat.succ_mul]; omega, List.getElem?_append_right (by omega), Nat.add_sub_cancel]
      exact ih hi'
theorem block_len {α : Type} (f : α → List Value) (d : Nat) (hf : ∀ x, (f x).length = d) (l : List α) : (l.flatMap f).length = l.length * d := by
  induction l with
  | nil => simp
  | cons x l ih => rw [List.flatMap_cons, List.length_append, hf, ih, List.length_cons, Nat.succ_mul]; omega

def inpC (x : Inp) : List Value := [.int .i64 x.1, .int .i64 x.2.1, .int .i64 x.2.2]
def slotC : Option Inp → List Value
  | some x => [.int .i64 x.1, .int .i64 x.2.1, .int .i64 x.2.2, .bool true]
  | none => [.int .i64 0, .int .i64 0, .int .i64 0, .bool false]
theorem slotC_len (o : Option Inp) : (slotC o).length = 4 := by cases o <;> rfl
def slotsC (g : Nat → Option Inp) : List Value := (List.range 8).flatMap fun i => slotC (g i)
theorem slotsC_len (g : Nat → Option Inp) : (slotsC g).length = 32 := by
  unfold slotsC
  rw [block_len _ 4 (fun i => slotC_len (g i))]
  simp
theorem slotsC_get (g : Nat → Option Inp) {i j : Nat} (hi : i < 8) (hj : j < 4) : (slotsC g)[i * 4 + j]? = (slotC (g i))[j]? := by
  unfold slotsC
  rw [block_get (fun i => slotC (g i)) 4 (fun i => slotC_len (g i)) (List.range 8) (by simpa using hi) hj]
  simp
/-- A fixed row: the inputs, and which of them are substitutes. -/
abbrev RowV := (Nat → Inp) × (Nat → Bool)
def rowC (r : RowV) : List Value := (List.range 8).flatMap (fun i => inpC (r.1 i)) ++ (List.range 8).map fun i => .bool (r.2 i)
theorem rowC_len (r : RowV) : (rowC r).length = 32 := by
  unfold rowC
  rw [List.length_append, block_len (fun i => inpC (r.1 i)) 3 (fun i => rfl)]
  simp
theorem rowC_in (r : RowV) {i j : Nat} (hi : i < 8) (hj : j < 3) : (rowC r)[i * 3 + j]? = (inpC (r.1 i))[j]? := by
  unfold rowC
  rw [List.getElem?_append_left (by rw [block_len (fun i => inpC (r.1 i)) 3 (fun i => rfl)]; simp; omega), block_get (fun i => inpC (r.1 i)) 3 (fun i => rfl) (List.range 8) (by simpa using hi) hj]
  simp
theorem rowC_miss (r : RowV) {i : Nat} (hi : i < 8) : (rowC r)[24 + i]? = some (.bool (r.2 i)) := by
  unfold rowC
  rw [List.getElem?_append_right (by rw [block_len (fun i => inpC (r.1 i)) 3 (fun i => rfl)]; simp), block_len (fun i => inpC (r.1 i)) 3 (fun i => rfl)]
  simp [hi]
theorem rowC_cell (r : RowV) : ∀ u ∈ rowC r, u.oneCell' = true := by
  intro u hu
  unfold rowC at hu
  rcases List.mem_append.1 hu with h | h
  · obtain ⟨i, _, hx⟩ := List.mem_flatMap.1 h
    simp [inpC] at hx
    rcases hx with rfl | rfl | rfl <;> rfl
  · obtain ⟨i, _, rfl⟩ := List.mem_map.1 h
    rfl
theorem slotsC_cell (g : Nat → Option Inp) : ∀ u ∈ slotsC g, u.oneCell' = true := by
  intro u hu
  obtain ⟨i, _, hx⟩ := List.mem_flatMap.1 hu
  rcases hg : g i with _ | x
  · rw [hg] at hx
    simp [slotC] at hx
    rcases hx with rfl | rfl <;> rfl
  · rw [hg] at hx
    simp [slotC] at hx
    rcases hx with rfl | rfl | rfl | rfl <;> rfl

def noSlots : Value := .agg (slotsC fun _ => none).toArray
/-- A queue at p: its map in block b, its rows in block g (if any). -/
def Iqu (w : World) (p b : Nat) (g : Option Nat) (k wt nm : Nat) (pd : Nat → Nat → Option Inp) (rows : List RowV) : Prop :=
  ∃ A c F, Vr w p 62 #[.int .i64 k, .int .i64 wt, .map (some b), .slice A rows.length c] ∧ (Value.slice A rows.length c).ownBlock = g ∧ rows.length ≤ c ∧ c ≤ maxLen ∧
    MapV w Try.prog 3 b nm F ∧ (∀ t : Nat, t ≤ 10000 → (F (.int .i64 t)).getD noSlots = .agg (slotsC (pd t)).toArray) ∧ w.ownsRow 0 75 32 (.slice A rows.length c) rows.length (rows.flatMap rowC)
/-- The blocks of a queue. -/
def Foot (p b : Nat) (g : Option Nat) : Nat → Prop := fun j => j = p ∨ j = b ∨ g = some j
theorem own_same {w w' : World} {base : Nat} {e : TypeId} {sz n : Nat} {v : Value} {xs : List Value} (h : w.ownsRow base e sz v n xs) (hg : ∀ j, v.ownBlock = some j → w'.heap[j]? = w.heap[j]?) : w'.ownsRow base e sz v n xs := by
  refine ⟨h.1, ?_⟩
  rcases h.2 with h2 | ⟨g, cap, cur, h1, h2, h3, h4⟩
  · exact .inl h2
  · exact .inr ⟨g, cap, cur, h1, h2, (hg g (by rw [h1]; rfl)).trans h3, h4⟩
section
variable {w w' : World} {p b : Nat} {g : Option Nat} {k wt nm : Nat} {pd : Nat → Nat → Option Inp} {rows : List RowV}
theorem Iqu.keep (h : Iqu w p b g k wt nm pd rows) (hk : ∀ j, Foot p b g j → w'.heap[j]? = w.heap[j]?) : Iqu w' p b g k wt nm pd rows := by
  obtain ⟨A, c, F, h1, h2, h3, h4, h5, h6, h7⟩ := h
  exact ⟨A, c, F, h1.same (hk p (.inl rfl)), h2, h3, h4, h5.same (hk b (.inr (.inl rfl))), h6, own_same h7 fun j hj => hk j (.inr (.inr (by rw [← h2]; exact hj)))⟩
theorem Iqu.lt (h : Iqu w p b g k wt nm pd rows) : ∀ j, Foot p b g j → j < w.heap.size := by
  obtain ⟨A, c, F, h1, h2, h3, h4, h5, h6, h7⟩ := h
  rintro j (rfl | rfl | hj)
  · exact h1.lt
  · exact h5.lt
  · exact (h7.lt j (by rw [h2]; exact hj)).2
theorem Iqu.below (h : Iqu w p b g k wt nm pd rows) (hb : Below w.heap.size w w') : Iqu w' p b g k wt nm pd rows := h.keep fun j hj => hb.block j (h.lt j hj)
theorem Iqu.only {G : Nat → Prop} (h : Iqu w p b g k wt nm pd rows) (ho : Only G w w') (hG : ∀ j, Foot p b g j → ¬ G j) : Iqu w' p b g k wt nm pd rows := h.keep fun j hj => ho.heap (h.lt j hj) (hG j hj)
/-- The queue's own cells. -/
theorem Iqu.cells (h : Iqu w p b g k wt nm pd rows) : ∃ A c, w.cell? ⟨p, 0, none⟩ = some (.int .i64 k) ∧ w.cell? ⟨p, 1, none⟩ = some (.int .i64 wt) ∧ w.cell? ⟨p, 2, none⟩ = some (.map (some b)) ∧ w.cell? ⟨p, 3, none⟩ = some (.slice A rows.length c) ∧ rows.length ≤ c ∧ c ≤ maxLen ∧ w.ownsRow 0 75 32 (.slice A rows.length c) rows.length (rows.flatMap rowC) := by
  obtain ⟨A, c, F, h1, h2, h3, h4, h5, h6, h7⟩ := h
  exact ⟨A, c, by rw [h1.cell]; rfl, by rw [h1.cell]; rfl, by rw [h1.cell]; rfl, by rw [h1.cell]; rfl, h3, h4, h7⟩
end

/-- A new queue comes back. -/
def RetQ (w : World) (k wt : Nat) (e : Ending) (w' : World) : Prop :=
  ∃ p b, e = .returned (.pointer (some ⟨p, 0, none⟩)) ∧ w.heap.size ≤ p ∧ w.heap.size ≤ b ∧ Iqu w' p b none k wt 0 (fun _ _ => none) [] ∧ Below w.heap.size w w'
theorem new_any (k wt : Nat) (w : World) (hk1 : 1 ≤ k) (hk8 : k ≤ 8) (hw8 : wt ≤ 8) : Calls Try.prog 11 #[.int .i64 (k : Int), .int .i64 (wt : Int)] w (RetQ w k wt) := by
  have hmm := @run_makeMap Try.prog
  have hc1 : k = 1 ∨ 1 < k := by omega
  have hc2 : wt = 0 ∨ 0 < wt := by omega
  rcases hc1 with rfl | hc1 <;> rcases hc2 with rfl | hc2
  all_goals
    go_enter Try.func11, Try.ntmps11
    go_wp2
    go_ret
    exact ⟨w.heap.size + 1, w.heap.size, rfl, by omega, Nat.le_refl _, ⟨none, 0, fun _ => none, by simpa using Vr.new (w.alloc (.map #[] 0)) _ _, rfl, Nat.le_refl _, by simp [maxLen], (MapV.made w _ _).alloc _, fun t _ => rfl, own_nil _ _ _ _⟩, b_alloc (b_alloc (Below.refl _ _) _) _⟩
theorem next_any (p b : Nat) (g : Option Nat) (k wt nm : Nat) (pd : Nat → Nat → Option Inp) (rows : List RowV) (w : World) (h : Iqu w p b g k wt nm pd rows) :
    Calls Try.prog 17 #[.pointer (some ⟨p, 0, none⟩)] w fun e w' => e = .returned (.int .i64 rows.length) ∧ w = w' := by
  obtain ⟨A, c, h0, h1, h2, h3, h4, h5, _⟩ := h.cells
  go_enter Try.func17, Try.ntmps17
  go_wp2
  go_ret
  exact ⟨rfl, rfl⟩
end Go.Proofs.Ytdjmaljldajpiaa
