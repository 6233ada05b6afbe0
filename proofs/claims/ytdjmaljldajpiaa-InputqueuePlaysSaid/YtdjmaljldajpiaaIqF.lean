/-
  WHAT IS PROVED HERE: a whole value that goes into a variable of memory; the row that package inputqueue's fix makes. No condition beyond what each theorem states.
-/
import Derived.Test.YtdjmaljldajpiaaIqE
namespace Go.Proofs.Ytdjmaljldajpiaa
set_option linter.unusedVariables false
open Go.ChangeShapes Go.WideShapes Go.ChangeAt Go.RowKit
open Go.Maps (Keyed)

theorem only_setRow {W : World} {b : Nat} {t : TypeId} {c : Array Value} (c' : Array Value) (hv : Vr W b t c) : Vr (W.setRow b c') b t c' ∧ Only (· = b) W (W.setRow b c') := by
  refine ⟨setRow_heap W b c c' t (0, 0) hv, rfl, rfl, rfl, by simp [World.setRow], fun k _ hn => ?_⟩
  have hn' : ¬ b = k := fun e => hn e.symm
  simp [World.setRow, Array.getElem?_modify, hn']
/-- A whole value goes into a variable. -/
theorem wpList_store_row {P : Program} {ops : Array Oper} {rest : List Oper} {op : Oper} {a : Act} {W : World} {Q : Exit → Act → World → Prop} (hgd : op.guard = none) (ty : TypeId) (x y : Operand) (ho : op.op = .store ty x y)
    {b : Nat} {t : TypeId} {c : Array Value} (c' : Array Value) (hv : Vr W b t c) (hx : a.eval x = .pointer (some ⟨b, 0, none⟩)) (hy : a.eval y = .agg c') (hi : (P.info? ty).map (·.size) = some c'.size) (hs : c.size = c'.size) (h1 : c'.all (·.oneCell') = true)
    (h : ∀ W', Vr W' b t c' → Only (· = b) W W' → wpList P ops Q rest (a.put op.dst undef) W') : wpList P ops Q (op :: rest) a W :=
  wpList_plain hgd fun _ hK => by
    unfold Oper.wp execOp
    simp only [ho, hx, hy, Instr.storeAt, Instr.sureAddr, Sem.run_bind, Sem.run_pure, Result.andThen_ok, run_storeVar_row W b t ty c c' hv hi hs h1]
    exact hK _ _ (h _ (only_setRow c' hv).1 (only_setRow c' hv).2)

/-- The row that a tick gets. -/
def zrow : RowV := (fun _ => (0, 0, 0), fun _ => false)
def fixIn (k : Nat) (last : RowV) (f : Nat → Option Inp) (i : Nat) : Inp := if i < k then (match f i with | some v => v | none => pred (last.1 i)) else (0, 0, 0)
def fixMiss (k : Nat) (f : Nat → Option Inp) (i : Nat) : Bool := decide (i < k) && (f i).isNone
def fixRow (k : Nat) (last : RowV) (f : Nat → Option Inp) : RowV := (fixIn k last f, fixMiss k f)
def lastRow (rows : List RowV) : RowV := rows.getLast?.getD zrow
def dropP (pd : Nat → Nat → Option Inp) (T : Nat) : Nat → Nat → Option Inp := fun t i => if t = T then none else pd t i
theorem fixRow_zero (last : RowV) (f : Nat → Option Inp) : fixRow 0 last f = zrow := by
  unfold fixRow zrow
  congr 1
theorem rowC_set {r r' : RowV} {i : Nat} (hi : i < 8) (hin : ∀ j, j ≠ i → r'.1 j = r.1 j) (hm : r'.2 = r.2) : rowC r' = (((rowC r).set (i * 3) (.int .i64 (r'.1 i).1)).set (i * 3 + 1) (.int .i64 (r'.1 i).2.1)).set (i * 3 + 2) (.int .i64 (r'.1 i).2.2) := by
  have hc : i = 0 ∨ i = 1 ∨ i = 2 ∨ i = 3 ∨ i = 4 ∨ i = 5 ∨ i = 6 ∨ i = 7 := by omega
  unfold rowC
  rw [hm]
  have e8 : List.range 8 = [0, 1, 2, 3, 4, 5, 6, 7] := rfl
  rw [e8]
  rcases hc with rfl | rfl | rfl | rfl | rfl | rfl | rfl | rfl <;> simp [inpC, hin]
theorem rowC_setM {r r' : RowV} {i : Nat} (hi : i < 8) (hin : r'.1 = r.1) (hm : ∀ j, j ≠ i → r'.2 j = r.2 j) : rowC r' = (rowC r).set (24 + i) (.bool (r'.2 i)) := by
  have hc : i = 0 ∨ i = 1 ∨ i = 2 ∨ i = 3 ∨ i = 4 ∨ i = 5 ∨ i = 6 ∨ i = 7 := by omega
  unfold rowC
  rw [hin]
  have e8 : List.range 8 = [0, 1, 2, 3, 4, 5, 6, 7] := rfl
  rw [e8]
  rcases hc with rfl | rfl | rfl | rfl | rfl | rfl | rfl | rfl <;> simp [inpC, hm]
theorem fix_some {i : Nat} {last : RowV} {f : Nat → Option Inp} {v : Inp} (hi : i < 8) (h : f i = some v) : rowC (fixRow (i + 1) last f) = (((rowC (fixRow i last f)).set (i * 3) (.int .i64 v.1)).set (i * 3 + 1) (.int .i64 v.2.1)).set (i * 3 + 2) (.int .i64 v.2.2) := by
  have e : (fixRow (i + 1) last f).1 i = v := by simp [fixRow, fixIn, h]
  rw [← e]
  refine rowC_set hi (fun j hj => ?_) ?_
  · simp only [fixRow, fixIn]
    by_cases h1 : j < i
    · rw [if_pos (by omega), if_pos h1]
    · rw [if_neg (by omega), if_neg h1]
  · funext j
    simp only [fixRow, fixMiss]
    by_cases h1 : j = i
    · subst h1; simp [h]
    · congr 1
      rw [decide_eq_decide]
      omega
theorem fix_none {i : Nat} {last : RowV} {f : Nat → Option Inp} (hi : i < 8) (h : f i = none) : rowC (fixRow (i + 1) last f) = ((((rowC (fixRow i last f)).set (i * 3) (.int .i64 (pred (last.1 i)).1)).set (i * 3 + 1) (.int .i64 (pred (last.1 i)).2.1)).set (i * 3 + 2) (.int .i64 (pred (last.1 i)).2.2)).set (24 + i) (.bool true) := by
  have e : (fixRow (i + 1) last f).1 i = pred (last.1 i) := by simp [fixRow, fixIn, h]
  have e2 : (fixRow (i + 1) last f).2 i = true := by simp [fixRow, fixMiss, h]
  rw [← e, ← e2]
  have h1 := rowC_set (r := fixRow i last f) (r' := (fixIn (i + 1) last f, fixMiss i f)) hi (fun j hj => by
    simp only [fixRow, fixIn]
    by_cases h1 : j < i
    · rw [if_pos (by omega), if_pos h1]
    · rw [if_neg (by omega), if_neg h1]) rfl
  have h2 := rowC_setM (r := (fixIn (i + 1) last f, fixMiss i f)) (r' := fixRow (i + 1) last f) hi rfl (fun j hj => by
    simp only [fixRow, fixMiss]
    congr 1
    rw [decide_eq_decide]
    omega)
  rw [h2, h1]
  rfl
end Go.Proofs.Ytdjmaljldajpiaa
