/-
  WHAT IS PROVED HERE: append, make and conversions on slices that read as lists, over any program. No condition beyond what each theorem states.
-/
import Derived.Test.YtdjmaljldajpiaaBase
import Derived.Maps.AppendAt
import Derived.Deep.AppendLies
import Derived.RegionTactic
import Derived.OwnWalk
namespace Go.Proofs.Ytdjmaljldajpiaa
set_option linter.unusedVariables false
open Go.ChangeShapes Go.WideShapes Go.ChangeAt Go.RowKit

/-- t is a slice type over e; an element takes 'size' cells and 'bytes' bytes. -/
structure SlT (P : Program) (t e : TypeId) (size bytes : Nat) : Prop where
  ht : P.underlying t = some (.slice e)
  ex : ∃ i z, P.info? e = some i ∧ i.zero = some z ∧ i.size = size ∧ i.bytes = bytes ∧ z.cells.size = size
  hsz : 0 < size
theorem SlT.mk' {P : Program} {t e : TypeId} {z : Value} {size bytes : Nat} (ht : P.underlying t = some (.slice e)) (h : (P.info? e).map (fun i => (i.zero, i.size, i.bytes)) = some (some z, size, bytes)) (hz : z.cells.size = size) (hs : 0 < size) : SlT P t e size bytes := by
  obtain ⟨i, hi, h0, h1, h2⟩ := info_parts h
  exact ⟨ht, ⟨i, z, hi, h0, h1, h2, hz⟩, hs⟩

/-- what a new block reads -/
theorem Rd.new (w : World) (cs : Array Value) (e : TypeId) {sz m : Nat} (h : cs.size = m * sz) : Rd (w.alloc (.cells cs e)) (w.heap.size + 1) sz (some ⟨w.heap.size, 0, none⟩) m cs.toList :=
  ⟨by simpa using h, fun _ => ⟨w.heap.size, 0, rfl, by omega, fun j u hu => by rw [Nat.zero_add, (Vr.new w e cs).cell]; simpa using hu⟩⟩

section
variable {P : Program} (w : World)
theorem run_append_none (base : Nat) (t ty e : TypeId) (i : TypeInfo) (size : Nat) (ht : P.underlying t = some (.slice e)) (hi : P.info? e = some i)
    (v : Value) (n : Nat) (xs : List Value) (hown : w.ownsRow base e size v n xs) (c : Nat) : (Builtin.append_ #[t, t] ty #[v, .slice none 0 c]).run P w = .ok v w := by
  obtain ⟨_, hown⟩ := hown
  rcases hown with ⟨rfl, rfl⟩ | ⟨g, cap, cur, rfl, _, _, hnc, _⟩ <;> simp [*, Builtin.append_, run_underlying ht, sizeOf, typeInfo, Builtin.lenOf, Builtin.firstCells, storeCells]
theorem run_app {t ty e : TypeId} {size bytes : Nat} (T : SlT P t e size bytes) {base : Nat} {v : Value} {n : Nat} {xs : List Value} (hown : w.ownsRow base e size v n xs)
    {B : Nat} {A : Option Addr} {m c : Nat} {news : List Value} (hr : Rd w B size A m news) (h1 : ∀ u ∈ news, u.oneCell' = true)
    (h63 : n + m ≤ maxLen) (hbytes : (n + m) * bytes ≤ 140737488355328) (hbase : base ≤ w.heap.size) :
    ∃ v' w', (Builtin.append_ #[t, t] ty #[v, .slice A m c]).run P w = .ok v' w' ∧ w'.ownsRow base e size v' (n + m) (xs ++ news) ∧ w.grownBy w' v.ownBlock ∧ (v'.ownBlock = v.ownBlock ∨ v'.ownBlock = some w.heap.size) := by
  obtain ⟨i, z, hi, hz, h2, h3, h4⟩ := T.ex
  by_cases he : news = []
  · subst he
    have hm : m = 0 := by
      have := hr.1
      have := T.hsz
      rcases Nat.eq_zero_or_pos m with h0 | h0
      · exact h0
      · have := Nat.mul_pos h0 T.hsz
        simp at *
        omega
    subst hm
    rcases A with _ | ad
    · exact ⟨v, w, run_append_none w base t ty e i size T.ht hi v n xs hown c, by simpa using hown, World.grownBy.refl w _, .inl rfl⟩
    · obtain ⟨v', w', hrun, g2, g3, _, g5⟩ := run_append_own_at (P := P) w base t ty e i z size bytes T.ht hi hz h2 h3 h4 T.hsz v n xs hown ad 0 c [] (by simp) (fun j u hu => by simp at hu) (by simp) h63 hbytes hbase
      exact ⟨v', w', hrun, g2, g3, g5⟩
  · obtain ⟨b, o, rfl, _, hc⟩ := hr.2 he
    obtain ⟨v', w', hrun, g2, g3, _, g5⟩ := run_append_own_at (P := P) w base t ty e i z size bytes T.ht hi hz h2 h3 h4 T.hsz v n xs hown ⟨b, o, none⟩ m c news hr.1
      (fun j u hu => by rw [Go.WideShapes.add_plain]; exact hc j u hu) h1 h63 hbytes hbase
    exact ⟨v', w', hrun, g2, g3, g5⟩

theorem wp_app {o : Oper} {a : Act} {K : Act → World → Prop} {Q : Exit → Act → World → Prop} (s x : Operand) {t e : TypeId} {size bytes : Nat} (T : SlT P t e size bytes)
    (ho : o.op = .call { callee := .builtin .append, args := #[s, x], argTypes := #[t, t] }) {base : Nat} {v : Value} {n : Nat} {xs : List Value} (hs : a.eval s = v) (hown : w.ownsRow base e size v n xs)
    {B : Nat} {A : Option Addr} {m c : Nat} {news : List Value} (hx : a.eval x = .slice A m c) (hr : Rd w B size A m news) (h1 : ∀ u ∈ news, u.oneCell' = true)
    (N : Nat) (hN : n + m = N) (h63 : N ≤ maxLen) (hbytes : N * bytes ≤ 140737488355328) (hbase : base ≤ w.heap.size)
    (h : ∀ A' c' w', N ≤ c' → c' ≤ maxLen → w'.ownsRow base e size (.slice A' N c') N (xs ++ news) → w.grownBy w' v.ownBlock → ((Value.slice A' N c').ownBlock = v.ownBlock ∨ (Value.slice A' N c').ownBlock = some w.heap.size) → K (a.put o.dst (.slice A' N c')) w') : o.wp P a w K Q := by
  subst hN
  obtain ⟨v', w', hrun, h2, h3, h4⟩ := run_app (P := P) w (ty := o.type) T hown hr h1 (c := c) h63 hbytes hbase
  obtain ⟨A', c', rfl, hc1, hc2, _⟩ := Rd.of_own h2
  unfold Oper.wp execOp
  simp only [ho, resolve, invoke, builtin, Sem.run_bind, Sem.run_pure, Result.andThen_ok, List.map_toArray, List.map_cons, List.map_nil, hs, hx, hrun]
  exact h A' c' w' hc1 hc2 h2 h3 h4

/-- append in a plain region; the new value is written out. -/
theorem wpList_app {ops : Array Oper} {rest : List Oper} {o : Oper} {a : Act} {Q : Exit → Act → World → Prop} (hgd : o.guard = none) (s x : Operand) {t e : TypeId} {size bytes : Nat} (T : SlT P t e size bytes)
    (ho : o.op = .call { callee := .builtin .append, args := #[s, x], argTypes := #[t, t] }) {base : Nat} {v : Value} {n : Nat} {xs : List Value} (hs : a.eval s = v) (hown : w.ownsRow base e size v n xs)
    {B : Nat} {A : Option Addr} {m c : Nat} {news : List Value} (hx : a.eval x = .slice A m c) (hr : Rd w B size A m news) (h1 : ∀ u ∈ news, u.oneCell' = true)
    (N : Nat) (hN : n + m = N) (h63 : N ≤ maxLen) (hbytes : N * bytes ≤ 140737488355328) (hbase : base ≤ w.heap.size)
    (h : ∀ A' c' w', N ≤ c' → c' ≤ maxLen → w'.ownsRow base e size (.slice A' N c') N (xs ++ news) → w.grownBy w' v.ownBlock → ((Value.slice A' N c').ownBlock = v.ownBlock ∨ (Value.slice A' N c').ownBlock = some w.heap.size) → wpList P ops Q rest (a.put o.dst (.slice A' N c')) w') : wpList P ops Q (o :: rest) a w :=
  wpList_plain hgd fun _ hK => wp_app w s x T ho hs hown hx hr h1 N hN h63 hbytes hbase fun A' c' w' g1 g2 g3 g4 g5 => hK _ _ (h A' c' w' g1 g2 g3 g4 g5)
/-- append as one step of a region that draws its order. -/
theorem step_app {ops : Array Oper} {o : Oper} {a : Act} {K : Act → World → Prop} {Q : Exit → Act → World → Prop} {E : Prop} (hgd : o.guard = none) (s x : Operand) {t e : TypeId} {size bytes : Nat} (T : SlT P t e size bytes)
    (ho : o.op = .call { callee := .builtin .append, args := #[s, x], argTypes := #[t, t] }) {base : Nat} {v : Value} {n : Nat} {xs : List Value} (hs : a.eval s = v) (hown : w.ownsRow base e size v n xs)
    {B : Nat} {A : Option Addr} {m c : Nat} {news : List Value} (hx : a.eval x = .slice A m c) (hr : Rd w B size A m news) (h1 : ∀ u ∈ news, u.oneCell' = true)
    (N : Nat) (hN : n + m = N) (h63 : N ≤ maxLen) (hbytes : N * bytes ≤ 140737488355328) (hbase : base ≤ w.heap.size)
    (h : ∀ A' c' w', N ≤ c' → c' ≤ maxLen → w'.ownsRow base e size (.slice A' N c') N (xs ++ news) → w.grownBy w' v.ownBlock → ((Value.slice A' N c').ownBlock = v.ownBlock ∨ (Value.slice A' N c').ownBlock = some w.heap.size) → K (a.put o.dst (.slice A' N c')) w') :
    if Region.wanted o (yielded ops a.tmps) = true then Oper.wp P o a w K Q else E := by
  have hw : Region.wanted o (yielded ops a.tmps) = true := by simp [Region.wanted, hgd]
  rw [if_pos hw]
  exact wp_app w s x T ho hs hown hx hr h1 N hN h63 hbytes hbase h
end

theorem own_nil (w : World) (base : Nat) (e : TypeId) (size : Nat) : w.ownsRow base e size (.slice none 0 0) 0 [] := World.ownsRow_nil w base e size
/-- Old memory is kept by an append onto what the call owns. -/
theorem below_app {B0 base : Nat} {a0 w w' : World} {e : TypeId} {size : Nat} {v : Value} {n : Nat} {xs : List Value} (hb : Below B0 a0 w) (hown : w.ownsRow base e size v n xs) (hg : w.grownBy w' v.ownBlock) (h1 : B0 ≤ base) (h2 : B0 ≤ w.heap.size) : Below B0 a0 w' :=
  hb.grown hg h2 (fun k e => Nat.le_trans h1 (hown.lt k e).1)
theorem ints_one (k : IntKind) (l : List Int) : ∀ u ∈ l.map (Value.int k), u.oneCell' = true := by
  intro u hu
  obtain ⟨x, _, rfl⟩ := List.mem_map.1 hu
  rfl
/-- What is owned reads so, below the heap's size. -/
theorem rd_own {w : World} {base : Nat} {e : TypeId} {sz n c : Nat} {A : Option Addr} {xs : List Value} (h : w.ownsRow base e sz (.slice A n c) n xs) : Rd w w.heap.size sz A n xs := by
  obtain ⟨A', c', he, _, _, hr⟩ := Rd.of_own h
  injection he with e1 e2 e3
  subst e1
  exact hr
/-- A piece of a slice from its head. -/
theorem Rd.take {w : World} {B sz n : Nat} {A : Option Addr} {xs : List Value} (h : Rd w B sz A n xs) {k : Nat} (hk : k ≤ n) : Rd w B sz A k (xs.take (k * sz)) := by
  refine ⟨by rw [List.length_take, h.1]; exact Nat.min_eq_left (Nat.mul_le_mul_right _ hk), fun hne => ?_⟩
  obtain ⟨b, o, e, hb, hc⟩ := h.2 (by intro e; subst e; simp at hne)
  refine ⟨b, o, e, hb, fun j u hu => hc j u ?_⟩
  rw [List.getElem?_take] at hu
  split at hu
  · exact hu
  · cases hu
/-- 's[:k]' -/
theorem run_slice_to {P : Program} {t e : TypeId} {size bytes : Nat} (T : SlT P t e size bytes) (A : Option Addr) (n c : Nat) (kd : IntKind) (H : Int) (h0 : 0 ≤ H) (h1 : H ≤ c) (w : World) :
    (Instr.slice t (.slice A n c) none (some (.int kd H)) none).run P w = .ok (.slice A H.toNat c) w := by
  obtain ⟨i, z, hi, _, h2, _⟩ := T.ex
  have ha : A.map (fun x => x.add 0) = A := by cases A <;> simp [Addr.add]
  simp [Instr.slice, run_underlying T.ht, Instr.sliceBounds, run_sliceBound, h0, h1, sizeOf, typeInfo, hi, ha]
/-- 's[k:]' -/
theorem run_slice_from {P : Program} {t e : TypeId} {size bytes : Nat} (T : SlT P t e size bytes) (A : Option Addr) (n c : Nat) (kd : IntKind) (L : Int) (h0 : 0 ≤ L) (h1 : L ≤ n) (w : World) :
    (Instr.slice t (.slice A n c) (some (.int kd L)) none none).run P w = .ok (.slice (if c = L.toNat then A else A.map (·.add (L.toNat * size))) (n - L.toNat) (c - L.toNat)) w := by
  obtain ⟨i, z, hi, _, h2, _⟩ := T.ex
  subst h2
  simp [Instr.slice, run_underlying T.ht, Instr.sliceBounds, run_sliceBound, h0, h1, sizeOf, typeInfo, hi]
theorem rd_lit (w : World) (cs : Array Value) (e : TypeId) {sz m : Nat} {xs : List Value} (h : cs.size = m * sz) (hx : cs.toList = xs) : Rd (w.alloc (.cells cs e)) (w.alloc (.cells cs e)).heap.size sz (some ⟨w.heap.size, 0, none⟩) m xs := by
  subst hx
  exact (Rd.new w cs e h).more (by simp)
theorem rd_step {w w' : World} {sz n : Nat} {A : Option Addr} {xs : List Value} (h : Rd w w.heap.size sz A n xs) (hb : Below w.heap.size w w') : Rd w' w'.heap.size sz A n xs := (h.below hb (Nat.le_refl _)).more hb.size
/-- What is owned, opened: its block. -/
theorem own_open {w : World} {base : Nat} {e : TypeId} {sz N c : Nat} {A : Option Addr} {xs : List Value} (h : w.ownsRow base e sz (.slice A N c) N xs) (hN : 0 < N) :
    ∃ g cur, A = some ⟨g, 0, none⟩ ∧ base ≤ g ∧ Vr w g e cur ∧ cur.toList.take (N * sz) = xs ∧ N ≤ c ∧ cur.size = c * sz := by
  rcases h.2 with ⟨he, h0⟩ | ⟨g, cap, cur, he, hg, hh, hn, hm, hs, ht⟩
  · omega
  · injection he with e1 e2 e3
    subst e3
    exact ⟨g, cur, e1, hg, hh, ht, hn, hs⟩
theorem own_shut {w : World} {base g : Nat} {e : TypeId} {sz N c : Nat} {cur : Array Value} {xs : List Value} (hg : base ≤ g) (hV : Vr w g e cur) (ht : cur.toList.take (N * sz) = xs) (hl : xs.length = N * sz) (hn : N ≤ c) (hc : c ≤ maxLen) (hs : cur.size = c * sz) :
    w.ownsRow base e sz (.slice (some ⟨g, 0, none⟩) N c) N xs := ⟨hl, .inr ⟨g, c, cur, rfl, hg, hV, hn, hc, hs, ht⟩⟩
theorem take_set_lt {α : Type} (l : List α) {k n : Nat} (x : α) (h : k < n) : (l.set k x).take n = (l.take n).set k x := by
  rw [List.take_set]
/-- a cell of what is owned is written: one element turns -/
theorem own_set {w : World} {base g : Nat} {e : TypeId} {sz N c : Nat} {xs : List Value} (h : w.ownsRow base e sz (.slice (some ⟨g, 0, none⟩) N c) N xs) (k : Nat) (u : Value) : (w.setCell ⟨g, k, none⟩ u).ownsRow base e sz (.slice (some ⟨g, 0, none⟩) N c) N (xs.set k u) :=
  (h.stored k u).1
theorem Rd.setCell {w : World} {B sz n : Nat} {A : Option Addr} {xs : List Value} (h : Rd w B sz A n xs) {p : Addr} (hp : B ≤ p.block) (u : Value) : Rd (w.setCell p u) B sz A n xs :=
  h.keep fun b hb => Below.heap_setCell w p u b (by omega)
end Go.Proofs.Ytdjmaljldajpiaa
