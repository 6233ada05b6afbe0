/-
  WHAT IS PROVED HERE: a map that the call itself made, as a function from keys to values: make, look up, store, delete, over any program. No condition beyond what each theorem states.
-/
import Derived.Test.YtdjmaljldajpiaaApp
import Derived.Maps.OwnSet
namespace Go.Proofs.Ytdjmaljldajpiaa
set_option linter.unusedVariables false
open Go.ChangeShapes Go.WideShapes Go.ChangeAt Go.RowKit
open Go.Maps (Keyed)

def heldE (v : Value) : Option (DataW Value × List MemPlace) := some (.held v, [])
/-- Block b is a map of at most n entries; F says what it holds at each key. -/
def MapV (w : World) (P : Program) (k : TypeId) (b n : Nat) (F : Lit → Option Value) : Prop :=
  ∃ D : DataW Value, w.ownsMap P k heldE b n D ∧ ∀ kl, WideAt.IsKeyLit kl → Maps.has D kl = (F kl).isSome ∧ ∀ z, D.atKey kl (.held z) = .held ((F kl).getD z)
open Classical in
/-- F, but u at the key kl. -/
noncomputable def putF (F : Lit → Option Value) (kl : Lit) (u : Option Value) : Lit → Option Value := fun x => if x = kl then u else F x
theorem putF_same (F : Lit → Option Value) (kl : Lit) (u : Option Value) : putF F kl u kl = u := if_pos rfl
theorem putF_other (F : Lit → Option Value) {kl x : Lit} (u : Option Value) (h : x ≠ kl) : putF F kl u x = F x := if_neg h
section
variable {P : Program} {k : TypeId} {w w' : World} {b n : Nat} {F : Lit → Option Value}
theorem MapV.made (w : World) (P : Program) (k : TypeId) : MapV (w.alloc (.map #[] 0)) P k w.heap.size 0 (fun _ => none) :=
  ⟨.map [], World.ownsMap_made w P k heldE, fun kl _ => ⟨rfl, fun z => rfl⟩⟩
theorem MapV.lt (h : MapV w P k b n F) : b < w.heap.size := by
  obtain ⟨D, h, _⟩ := h
  exact h.lt
theorem MapV.same (h : MapV w P k b n F) (hb : w'.heap[b]? = w.heap[b]?) : MapV w' P k b n F := by
  obtain ⟨D, ⟨es, clock, h1, h2⟩, h3⟩ := h
  exact ⟨D, ⟨es, clock, hb.trans h1, h2⟩, h3⟩
theorem MapV.mono (h : MapV w P k b n F) {n' : Nat} (hn : n ≤ n') : MapV w P k b n' F := by
  obtain ⟨D, h, h3⟩ := h
  exact ⟨D, h.mono hn, h3⟩
theorem MapV.kept {row : Option Nat} (h : MapV w P k b n F) (hg : w.grownBy w' row) (hne : some b ≠ row) : MapV w' P k b n F := h.same (hg.block b h.lt hne)
theorem MapV.below {B : Nat} (h : MapV w P k b n F) (hb : Below B w w') (hB : b < B) : MapV w' P k b n F := h.same (hb.block b hB)
theorem MapV.call (h : MapV w P k b n F) (hb : Below w.heap.size w w') : MapV w' P k b n F := h.below hb h.lt
theorem MapV.only {G : Nat → Prop} (h : MapV w P k b n F) (hb : Only G w w') (hB : ¬ G b) : MapV w' P k b n F := h.same (hb.heap h.lt hB)
theorem MapV.alloc (h : MapV w P k b n F) (o : Obj) : MapV (w.alloc o) P k b n F := h.call (b_alloc (Below.refl _ _) o)
theorem MapV.drew (h : MapV w P k b n F) : MapV w.drew P k b n F := h
theorem MapV.drewN (h : MapV w P k b n F) (m : Nat) : MapV (w.drewN m) P k b n F := h
theorem MapV.setCell (h : MapV w P k b n F) {p : Addr} (hp : b ≠ p.block) (u : Value) : MapV (w.setCell p u) P k b n F := h.same (Below.heap_setCell w p u b hp)
theorem MapV.key (K : Keyed P k) {key : Value} {kl : Lit} (hkey : keyOf P k key = some kl) : WideAt.IsKeyLit kl := K.key hkey

/-- 'm[k]' -/
theorem MapV.look {t e : TypeId} (h : MapV w P k b n F) (K : Keyed P k) (ht : P.underlying t = some (.map k e)) {z : Value} (hz : (zeroValue e).run P w = .ok z w) {key : Value} {kl : Lit} (hkey : keyOf P k key = some kl) :
    (Instr.lookup t (.map (some b)) key false).run P w = .ok ((F kl).getD z) w := by
  obtain ⟨D, h, h3⟩ := h
  obtain ⟨v, ps, hr, hv⟩ := h.lookup K ht hz (zd := .held z) (zp := []) rfl hkey
  rw [hr]
  rw [(h3 kl (K.key hkey)).2 z] at hv
  simp only [heldE, Option.some.injEq, Prod.mk.injEq, DataW.held.injEq] at hv
  rw [hv.1]
/-- 'v, ok := m[k]' -/
theorem MapV.look_ok {t e : TypeId} (h : MapV w P k b n F) (K : Keyed P k) (ht : P.underlying t = some (.map k e)) {z : Value} (hz : (zeroValue e).run P w = .ok z w) {key : Value} {kl : Lit} (hkey : keyOf P k key = some kl) :
    (Instr.lookup t (.map (some b)) key true).run P w = .ok (.tuple #[(F kl).getD z, .bool (F kl).isSome]) w := by
  obtain ⟨D, h, h3⟩ := h
  obtain ⟨v, ps, hr, hv⟩ := h.look_ok K ht hz (zd := .held z) (zp := []) rfl hkey
  rw [hr, (h3 kl (K.key hkey)).1]
  rw [(h3 kl (K.key hkey)).2 z] at hv
  simp only [heldE, Option.some.injEq, Prod.mk.injEq, DataW.held.injEq] at hv
  rw [hv.1]
/-- 'm[k] = v' -/
theorem MapV.store {t e : TypeId} (h : MapV w P k b n F) (K : Keyed P k) (ht : P.underlying t = some (.map k e)) (hn : n < maxLen) {key val : Value} {kl : Lit} (hkey : keyOf P k key = some kl) :
    ∃ w', (Instr.mapUpdate t (.map (some b)) key val).run P w = .ok () w' ∧ MapV w' P k b (n + 1) (putF F kl (some val)) ∧ Only (· = b) w w' := by
  obtain ⟨D, h, h3⟩ := h
  obtain ⟨w', hr, h', ht'⟩ := h.store K ht hn (val := val) (d := .held val) (ps := []) hkey rfl
  refine ⟨w', hr, ⟨_, h', fun kl' hk' => ?_⟩, ?_⟩
  · by_cases he : kl' = kl
    · subst he
      rw [putF_same]
      exact ⟨Maps.has_put_same h.isMap hk' _, fun z => Maps.atKey_put_same h.isMap hk' _ _⟩
    · rw [putF_other _ _ he, Maps.has_put_other he]
      exact ⟨(h3 kl' hk').1, fun z => by rw [Maps.atKey_put_other he]; exact (h3 kl' hk').2 z⟩
  · have g := ht'.grown
    exact ⟨g.os, g.tape, g.output, g.size, fun i hi hne => g.block i hi (fun e => hne (by injection e))⟩
/-- 'delete(m, k)' -/
theorem MapV.drop {t e : TypeId} (h : MapV w P k b n F) (K : Keyed P k) (ht : P.underlying t = some (.map k e)) {key : Value} {kl : Lit} (hkey : keyOf P k key = some kl) (ty : TypeId) :
    ∃ w', (Builtin.delete_ #[t, k] ty #[.map (some b), key]).run P w = .ok (.tuple #[]) w' ∧ MapV w' P k b n (putF F kl none) ∧ Only (· = b) w w' := by
  obtain ⟨D, h, h3⟩ := h
  obtain ⟨w', hr, h', ht'⟩ := h.drop K ht hkey ty
  refine ⟨w', hr, ⟨_, h', fun kl' hk' => ?_⟩, ?_⟩
  · by_cases he : kl' = kl
    · subst he
      rw [putF_same]
      exact ⟨Maps.has_del_same, fun z => Maps.atKey_del_same _⟩
    · rw [putF_other _ _ he, Maps.has_del_other he]
      exact ⟨(h3 kl' hk').1, fun z => by rw [Maps.atKey_del_other he]; exact (h3 kl' hk').2 z⟩
  · have g := ht'.grown
    exact ⟨g.os, g.tape, g.output, g.size, fun i hi hne => g.block i hi (fun e => hne (by injection e))⟩
end

section
variable {P : Program} (w : World) {ops : Array Oper} {rest : List Oper} {o : Oper} {a : Act} {Q : Exit → Act → World → Prop}
/-- 'm[k]' at the operation. -/
theorem wpList_lookV (hg : o.guard = none) (m x : Operand) (t : TypeId) (hop : o.op = Op.lookup t m x false) {k e : TypeId} (K : Keyed P k) (ht : P.underlying t = some (.map k e)) {z : Value} (hz : (zeroValue e).run P w = .ok z w) {b n : Nat} {F : Lit → Option Value}
    (hm : a.eval m = .map (some b)) (h : MapV w P k b n F) {key : Value} {kl : Lit} (hx : a.eval x = key) (hkey : keyOf P k key = some kl) {u : Value} (hu : (F kl).getD z = u)
    (hK : wpList P ops Q rest (a.put o.dst u) w) : wpList P ops Q (o :: rest) a w := by
  refine wpList_plain hg fun K' hK' => ?_
  have hrun := h.look K ht hz hkey
  rw [hu] at hrun
  unfold Oper.wp
  simp [execOp, hop, hm, hx, hrun, Result.andThen]
  exact hK' _ _ hK
/-- 'v, ok := m[k]' at the operation. -/
theorem wpList_lookV_ok (hg : o.guard = none) (m x : Operand) (t : TypeId) (hop : o.op = Op.lookup t m x true) {k e : TypeId} (K : Keyed P k) (ht : P.underlying t = some (.map k e)) {z : Value} (hz : (zeroValue e).run P w = .ok z w) {b n : Nat} {F : Lit → Option Value}
    (hm : a.eval m = .map (some b)) (h : MapV w P k b n F) {key : Value} {kl : Lit} (hx : a.eval x = key) (hkey : keyOf P k key = some kl) {u : Value} (hu : (F kl).getD z = u) {q : Bool} (hq : (F kl).isSome = q)
    (hK : wpList P ops Q rest (a.put o.dst (.tuple #[u, .bool q])) w) : wpList P ops Q (o :: rest) a w := by
  refine wpList_plain hg fun K' hK' => ?_
  have hrun := h.look_ok K ht hz hkey
  rw [hu, hq] at hrun
  unfold Oper.wp
  simp [execOp, hop, hm, hx, hrun, Result.andThen]
  exact hK' _ _ hK
/-- 'm[k] = v' at the operation. -/
theorem wpList_storeV (hg : o.guard = none) (m x v : Operand) (t : TypeId) (hop : o.op = Op.mapUpdate t m x v) {k e : TypeId} (K : Keyed P k) (ht : P.underlying t = some (.map k e)) {b n : Nat} {F : Lit → Option Value}
    (hm : a.eval m = .map (some b)) (h : MapV w P k b n F) (hn : n < maxLen) {key val : Value} {kl : Lit} (hx : a.eval x = key) (hv : a.eval v = val) (hkey : keyOf P k key = some kl)
    (hK : ∀ w', MapV w' P k b (n + 1) (putF F kl (some val)) → Only (· = b) w w' → wpList P ops Q rest (a.put o.dst undef) w') : wpList P ops Q (o :: rest) a w := by
  refine wpList_plain hg fun K' hK' => ?_
  obtain ⟨w', hrun, r1, r2⟩ := h.store K ht hn hkey (val := val)
  unfold Oper.wp
  simp [execOp, hop, hm, hx, hv, hrun, Result.andThen]
  exact hK' _ _ (hK w' r1 r2)
/-- 'delete(m, k)' at the operation. -/
theorem wpList_dropV (hg : o.guard = none) (m x : Operand) (t k : TypeId) (hop : o.op = Op.call { callee := Callee.builtin Builtin.delete, args := #[m, x], argTypes := #[t, k] }) {e : TypeId} (K : Keyed P k) (ht : P.underlying t = some (.map k e)) {b n : Nat} {F : Lit → Option Value}
    (hm : a.eval m = .map (some b)) (h : MapV w P k b n F) {key : Value} {kl : Lit} (hx : a.eval x = key) (hkey : keyOf P k key = some kl)
    (hK : ∀ w', MapV w' P k b n (putF F kl none) → Only (· = b) w w' → wpList P ops Q rest (a.put o.dst (.tuple #[])) w') : wpList P ops Q (o :: rest) a w := by
  refine wpList_plain hg fun K' hK' => ?_
  obtain ⟨w', hrun, r1, r2⟩ := h.drop K ht hkey o.type
  unfold Oper.wp
  simp [execOp, hop, resolve, invoke, builtin, hm, hx, hrun, Result.andThen]
  exact hK' _ _ (hK w' r1 r2)
end
end Go.Proofs.Ytdjmaljldajpiaa
