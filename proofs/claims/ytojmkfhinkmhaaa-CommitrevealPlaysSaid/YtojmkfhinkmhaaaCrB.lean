/-
  WHAT IS PROVED HERE: rounds of package commitreveal in memory; the contracts of New, Open, Close and Commit. No condition but that the round lies in memory as stated.
-/
import Derived.Test.YtojmkfhinkmhaaaCrA
import Derived.Test.YtojmkfhinkmhaaaInQ
import Derived.Test.YtojmkfhinkmhaaaHsR
namespace Go.Proofs.Ytojmkfhinkmhaaa
set_option linter.unusedVariables false
open Go.ChangeShapes Go.WideShapes Go.ChangeAt Go.RowKit

/-- A player's state: committed, revealed, the commitment, the input. -/
structure StV where
  c : Bool
  r : Bool
  h : Int
  i : Inp
def st0 : StV := ⟨false, false, 0, (0, 0, 0)⟩
def stC (s : StV) : List Value := [.bool s.c, .bool s.r, .int .u64 s.h, .int .i64 s.i.1, .int .i64 s.i.2.1, .int .i64 s.i.2.2]
theorem stC_len (s : StV) : (stC s).length = 6 := rfl
/-- A round. -/
structure RdV where
  k : Nat
  t : Int
  o : Bool
  st : Nat → StV
def newR (k : Nat) (t : Int) : RdV := ⟨k, t, false, fun _ => st0⟩
def stsC (f : Nat → StV) : List Value := (List.range 8).flatMap fun p => stC (f p)
def rdC (r : RdV) : List Value := [.int .i64 r.k, .int .i64 r.t, .bool r.o] ++ stsC r.st
theorem stsC_get (f : Nat → StV) {p j : Nat} (hp : p < 8) (hj : j < 6) : (stsC f)[p * 6 + j]? = (stC (f p))[j]? := by
  have h : p = 0 ∨ p = 1 ∨ p = 2 ∨ p = 3 ∨ p = 4 ∨ p = 5 ∨ p = 6 ∨ p = 7 := by omega
  have h' : j = 0 ∨ j = 1 ∨ j = 2 ∨ j = 3 ∨ j = 4 ∨ j = 5 := by omega
  rcases h with rfl | rfl | rfl | rfl | rfl | rfl | rfl | rfl <;> rcases h' with rfl | rfl | rfl | rfl | rfl | rfl <;> rfl
theorem rdC_get (r : RdV) {p j : Nat} (hp : p < 8) (hj : j < 6) : (rdC r)[3 + p * 6 + j]? = (stC (r.st p))[j]? := by
  rw [rdC, List.getElem?_append_right (by simp; omega)]
  rw [← stsC_get r.st hp hj]
  congr 1
  simp
  omega
def setSt (f : Nat → StV) (p : Nat) (s : StV) : Nat → StV := fun q => if q = p then s else f q
theorem stsC_len (f : Nat → StV) : (stsC f).length = 48 := rfl
/-- a cell of a state is written -/
theorem rdC_set (r : RdV) {p j : Nat} (hp : p < 8) (hj : j < 6) (v : Value) (s : StV) (h : stC s = (stC (r.st p)).set j v) : (rdC r).toArray.setIfInBounds (3 + p * 6 + j) v = (rdC { r with st := setSt r.st p s }).toArray := by
  refine Array.ext_getElem? fun i => ?_
  rw [Array.getElem?_setIfInBounds]
  simp only [List.size_toArray, List.getElem?_toArray]
  have hz : (rdC r).length = 51 := by simp [rdC, stsC_len]
  by_cases hi : 3 + p * 6 + j = i
  · subst hi
    rw [if_pos rfl, if_pos (by rw [hz]; omega), rdC_get _ hp hj]
    simp only [setSt, if_true]
    rw [h, List.getElem?_set_self (by rw [stC_len]; exact hj)]
  · rw [if_neg hi]
    rcases Nat.lt_or_ge i 3 with h3 | h3
    · have : i = 0 ∨ i = 1 ∨ i = 2 := by omega
      rcases this with rfl | rfl | rfl <;> rfl
    · rcases Nat.lt_or_ge i 51 with h4 | h4
      · obtain ⟨q, m, rfl, hq, hm⟩ : ∃ q m, i = 3 + q * 6 + m ∧ q < 8 ∧ m < 6 := ⟨(i - 3) / 6, (i - 3) % 6, by omega, by omega, by omega⟩
        rw [rdC_get _ hq hm, rdC_get _ hq hm]
        simp only [setSt]
        by_cases hqp : q = p
        · subst hqp
          rw [if_pos rfl, h, List.getElem?_set_ne (by omega)]
        · rw [if_neg hqp]
      · rw [List.getElem?_eq_none (by rw [hz]; exact h4), List.getElem?_eq_none (by simp [rdC, stsC_len]; omega)]

/-- The round lies at p. -/
def Cr (w : World) (p : Nat) (r : RdV) : Prop := Vr w p 73 (rdC r).toArray
theorem Cr.call {w w' : World} {p : Nat} {r : RdV} (h : Cr w p r) (hb : Below w.heap.size w w') : Cr w' p r := Vr.call h hb
theorem Cr.keep {B : Nat} {w w' : World} {p : Nat} {r : RdV} (h : Cr w p r) (hb : Below B w w') (hB : p < B) : Cr w' p r := Vr.keep h hb hB
theorem Cr.facts {w : World} {p : Nat} {r : RdV} (h : Cr w p r) : w.cell? ⟨p, 0, none⟩ = some (.int .i64 r.k) ∧ w.cell? ⟨p, 1, none⟩ = some (.int .i64 r.t) ∧ w.cell? ⟨p, 2, none⟩ = some (.bool r.o) ∧ p < w.heap.size ∧ ∀ i, w.frozen? ⟨p, i, none⟩ = false :=
  ⟨Vr.cell h 0, Vr.cell h 1, Vr.cell h 2, Vr.lt h, Vr.frozen h⟩
theorem Cr.st {w : World} {p : Nat} {r : RdV} (h : Cr w p r) {q : Nat} (hq : q < 8) : w.cell? ⟨p, 3 + q * 6, none⟩ = some (.bool (r.st q).c) ∧ w.cell? ⟨p, 3 + q * 6 + 1, none⟩ = some (.bool (r.st q).r) ∧ w.cell? ⟨p, 3 + q * 6 + 2, none⟩ = some (.int .u64 (r.st q).h) := by
  refine ⟨?_, ?_, ?_⟩
  · rw [Vr.cell h, List.getElem?_toArray]; exact rdC_get r hq (j := 0) (by omega)
  · rw [Vr.cell h, List.getElem?_toArray]; exact rdC_get r hq (j := 1) (by omega)
  · rw [Vr.cell h, List.getElem?_toArray]; exact rdC_get r hq (j := 2) (by omega)

set_option maxHeartbeats 1000000 in
theorem crnew_any (k : Nat) (t : Int) (w : World) (hk : k ≤ 8) :
    Calls Try.prog 15 #[.int .i64 k, .int .i64 t] w fun e w' => e = .returned (.pointer (some ⟨w.heap.size, 0, none⟩)) ∧ Cr w' w.heap.size (newR k t) ∧ Below w.heap.size w w' := by
  go_enter Try.func15, Try.ntmps15
  go_wp2
  go_ret
  exact ⟨rfl, Vr.new w _ _, by (repeat (first | (with_reducible exact Below.refl _ _) | (with_reducible assumption) | (with_reducible refine b_drew ?_) | (with_reducible refine b_drewN ?_ _) | (with_reducible refine b_alloc ?_ _) | ((with_reducible refine b_set ?_ ?_ _); rotate_left; (focus (first | omega | (simp; done) | (simp; omega) | (simp at *; omega)))) | (with_reducible refine b_call ?_ (by with_reducible assumption))))⟩
set_option maxHeartbeats 400000 in
theorem cropen_any (p : Nat) (r : RdV) (w : World) (h : Cr w p r) :
    Calls Try.prog 31 #[.pointer (some ⟨p, 0, none⟩)] w fun e w' => e = .returned (.bool r.o) ∧ w = w' := by
  obtain ⟨_, _, h2, _, _⟩ := h.facts
  clear h
  go_enter Try.func31, Try.ntmps31
  go_wp2
  go_ret
  exact ⟨rfl, rfl⟩
def closeR (r : RdV) : RdV := { r with o := true }
set_option maxHeartbeats 400000 in
theorem crclose_any (p : Nat) (r : RdV) (w : World) (h : Cr w p r) :
    Calls Try.prog 18 #[.pointer (some ⟨p, 0, none⟩)] w fun e w' => e = .returned (.tuple #[]) ∧ Cr w' p (closeR r) ∧ Only (· = p) w w' := by
  obtain ⟨_, _, h2, h3, h4⟩ := h.facts
  have HC := Lib.hid h
  clear h
  go_enter Try.func18, Try.ntmps18
  go_wp2
  go_end0
  exact ⟨rfl, HC.out.set 2 (.bool true), (Only.refl (· = p) w).setCell (p := ⟨p, 2, none⟩) (.inl rfl) _⟩
end Go.Proofs.Ytojmkfhinkmhaaa
