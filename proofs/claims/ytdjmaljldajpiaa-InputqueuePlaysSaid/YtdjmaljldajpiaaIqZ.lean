/-
  WHAT IS PROVED HERE: the contract of the reference's Advance. No condition but that the queue lies in memory as stated.
-/
import Derived.Test.YtdjmaljldajpiaaIqY
import Derived.Deep.Cut
import Derived.Deep.CutRange
import Derived.Deep.CutBlock
namespace Go.Proofs.Ytdjmaljldajpiaa
set_option linter.unusedVariables false
open Go.ChangeShapes Go.WideShapes Go.ChangeAt Go.RowKit

set_option maxHeartbeats 400000 in
theorem refpredict3 (a b c : Int) (w : World) :
    Calls Try.prog 28 #[.agg #[.int .i64 a, .int .i64 b, .int .i64 c]] w fun e w' => e = .returned (.agg #[.int .i64 a, .int .i64 b, .int .i64 0]) ∧ Below w.heap.size w w' := by
  go_enter Try.func28, Try.ntmps28
  go_wp2
  exact bodyPost_ret (v := .agg #[.int .i64 a, .int .i64 b, .int .i64 0]) (by simp [results, Try.results28, go_sem]) rfl ⟨rfl, by (repeat (first | (with_reducible exact Below.refl _ _) | (with_reducible assumption) | (with_reducible refine b_drew ?_) | (with_reducible refine b_drewN ?_ _) | (with_reducible refine b_alloc ?_ _) | ((with_reducible refine b_set ?_ ?_ _); rotate_left; (focus (first | omega | (simp; done) | (simp; omega) | (simp at *; omega)))) | (with_reducible refine b_call ?_ (by with_reducible assumption))))⟩
theorem slRowsI : SlT Try.prog 27 49 1 24 := .mk' (z := .slice none 0 0) Try.underlying27 (by kernel_rfl) rfl (by omega)
theorem slRowsB : SlT Try.prog 28 50 1 24 := .mk' (z := .slice none 0 0) Try.underlying28 (by kernel_rfl) rfl (by omega)
def rowI (k : Nat) (last : RowV) (f : Nat → Option Inp) (p : Nat) : List Inp := (List.range p).map (fixIn k last f)
def rowB (k : Nat) (f : Nat → Option Inp) (p : Nat) : List Bool := (List.range p).map (fixMiss k f)
theorem rowI_len (k : Nat) (last : RowV) (f : Nat → Option Inp) (p : Nat) : (rowI k last f p).length = p := by simp [rowI]
theorem rowB_len (k : Nat) (f : Nat → Option Inp) (p : Nat) : (rowB k f p).length = p := by simp [rowB]
theorem rowI_snoc (k : Nat) (last : RowV) (f : Nat → Option Inp) (p : Nat) : flat (rowI k last f (p + 1)) = flat (rowI k last f p) ++ flat [fixIn k last f p] := by
  unfold rowI
  rw [List.range_succ, List.map_append, flat_append]
  rfl
theorem rowB_snoc (k : Nat) (f : Nat → Option Inp) (p : Nat) : (rowB k f (p + 1)).map Value.bool = (rowB k f p).map Value.bool ++ [Value.bool (fixMiss k f p)] := by
  unfold rowB
  rw [List.range_succ, List.map_append, List.map_append]
  rfl
theorem slices_one (k : Nat) (hd : List (Option Addr × Nat)) : ∀ u ∈ hd.map (fun h => Value.slice h.1 k h.2), u.oneCell' = true := by
  intro u hu
  obtain ⟨x, _, rfl⟩ := List.mem_map.1 hu
  rfl
/-- one more row -/
theorem RowsF.snoc {w : World} {F : Nat → Prop} {sz k n base : Nat} {A Ar : Option Addr} {c cr : Nat} {xss : List (List Value)} {xs : List Value} {e : TypeId} {hd : List (Option Addr × Nat)} (h1 : hd.length = n) (h2 : xss.length = n) (h3 : ∀ (t : Nat) (h1 : t < hd.length) (h2 : t < xss.length), RdF w F sz hd[t].1 k xss[t])
    (h4 : RdF w F sz Ar k xs) (O : w.ownsRow base e 1 (.slice A (n + 1) c) (n + 1) (hd.map (fun h => Value.slice h.1 k h.2) ++ [.slice Ar k cr])) (hF : ∀ j, F j → j < base) : RowsF w F sz k A (n + 1) (xss ++ [xs]) := by
  refine ⟨hd ++ [(Ar, cr)], by simp [h1], by simp [h2], ?_, fun t a b => ?_⟩
  · rw [List.map_append]
    exact RdF.of_own O hF
  · rcases Nat.lt_or_ge t n with ht | ht
    · rw [List.getElem_append_left (by omega), List.getElem_append_left (by omega)]
      exact h3 t (by omega) (by omega)
    · have : t = n := by simp at a; omega
      subst this
      have e1 : (hd ++ [(Ar, cr)])[t] = (Ar, cr) := by simp [← h1]
      have e2 : (xss ++ [xs])[t] = xs := by simp [← h2]
      rw [e1, e2]
      exact h4
/-- The queue behind Advance comes back. -/
def RetAdvR (w : World) (F : Nat → Prop) (k wt : Nat) (AL : Option Addr) (cL : Nat) (L : List OneV) (rows : List RowV) (e : Ending) (w' : World) : Prop :=
  ∃ AR cR AM cM, e = .returned (.agg #[.int .i64 k, .int .i64 wt, .slice AL L.length cL, .slice AR rows.length cR, .slice AM rows.length cM]) ∧ RQ w' F k AL L AR AM rows ∧ Below w.heap.size w w'
theorem fixIn_yes {k : Nat} {last : RowV} {f : Nat → Option Inp} {p : Nat} {x : Inp} (hp : p < k) (h : f p = some x) : fixIn k last f p = x ∧ fixMiss k f p = false := by
  unfold fixIn fixMiss
  rw [if_pos hp, h]
  exact ⟨rfl, by simp⟩
theorem fixIn_no {k : Nat} {last : RowV} {f : Nat → Option Inp} {p : Nat} (hp : p < k) (h : f p = none) : fixIn k last f p = pred (last.1 p) ∧ fixMiss k f p = true := by
  unfold fixIn fixMiss
  rw [if_pos hp, h]
  exact ⟨rfl, by simp [hp]⟩
theorem lastRow_at {rows : List RowV} {n : Nat} (hn : rows.length = n + 1) : ∃ h : n < rows.length, lastRow rows = rows[n] := by
  refine ⟨by omega, ?_⟩
  unfold lastRow
  rw [List.getLast?_eq_getElem?, show rows.length - 1 = n from by omega, List.getElem?_eq_getElem (by omega)]
  rfl
end Go.Proofs.Ytdjmaljldajpiaa
