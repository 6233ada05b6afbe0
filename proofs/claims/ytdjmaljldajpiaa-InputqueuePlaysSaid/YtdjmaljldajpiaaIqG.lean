/-
  WHAT IS PROVED HERE: the contract of package inputqueue's fix. No condition but that the queue lies in memory as stated.
-/
import Derived.Test.YtdjmaljldajpiaaIqF
import Derived.Test.YtdjmaljldajpiaaIqB
import Derived.Deep.Cut
import Derived.Deep.CutRange
import Derived.Test.YtdjmaljldajpiaaStep
import Derived.Deep.RegionLaw
namespace Go.Proofs.Ytdjmaljldajpiaa
set_option linter.unusedVariables false
open Go.ChangeShapes Go.WideShapes Go.ChangeAt Go.RowKit
open Go.Maps (Keyed)

theorem rowC_zero : (rowC zrow).toArray = #[.int .i64 0, .int .i64 0, .int .i64 0, .int .i64 0, .int .i64 0, .int .i64 0, .int .i64 0, .int .i64 0, .int .i64 0, .int .i64 0, .int .i64 0, .int .i64 0, .int .i64 0, .int .i64 0, .int .i64 0, .int .i64 0, .int .i64 0, .int .i64 0, .int .i64 0, .int .i64 0, .int .i64 0, .int .i64 0, .int .i64 0, .int .i64 0, .bool false, .bool false, .bool false, .bool false, .bool false, .bool false, .bool false, .bool false] := rfl
theorem lastRow_eq {rows : List RowV} {t : Nat} (ht : t < rows.length) (e : t = rows.length - 1) : lastRow rows = rows[t] := by
  subst e
  unfold lastRow
  rw [List.getLast?_eq_getElem?, List.getElem?_eq_getElem ht]
  rfl
theorem lastRow_nil {rows : List RowV} (h : rows.length = 0) : lastRow rows = zrow := by
  have : rows = [] := List.eq_nil_of_length_eq_zero h
  subst this
  rfl
theorem slRows : SlT Try.prog 60 75 32 200 := .mk' (z := .agg (rowC zrow).toArray) Try.underlying60 (by kernel_rfl) rfl (by omega)
theorem rowC_lit (r : RowV) : rowC r = [.int .i64 (r.1 0).1, .int .i64 (r.1 0).2.1, .int .i64 (r.1 0).2.2, .int .i64 (r.1 1).1, .int .i64 (r.1 1).2.1, .int .i64 (r.1 1).2.2, .int .i64 (r.1 2).1, .int .i64 (r.1 2).2.1, .int .i64 (r.1 2).2.2, .int .i64 (r.1 3).1, .int .i64 (r.1 3).2.1, .int .i64 (r.1 3).2.2, .int .i64 (r.1 4).1, .int .i64 (r.1 4).2.1, .int .i64 (r.1 4).2.2, .int .i64 (r.1 5).1, .int .i64 (r.1 5).2.1, .int .i64 (r.1 5).2.2, .int .i64 (r.1 6).1, .int .i64 (r.1 6).2.1, .int .i64 (r.1 6).2.2, .int .i64 (r.1 7).1, .int .i64 (r.1 7).2.1, .int .i64 (r.1 7).2.2, .bool (r.2 0), .bool (r.2 1), .bool (r.2 2), .bool (r.2 3), .bool (r.2 4), .bool (r.2 5), .bool (r.2 6), .bool (r.2 7)] := rfl
theorem own_drew {w : World} {base : Nat} {e : TypeId} {sz n : Nat} {v : Value} {xs : List Value} (h : w.ownsRow base e sz v n xs) : w.drew.ownsRow base e sz v n xs := h
theorem range_keep {X w' : World} {b o : Nat} {cs : List Value} (hb : Below X.heap.size X w') (h : X.rangeAt b o cs) : w'.rangeAt b o cs := fun j v hj => cell_keep hb (h j v hj)
theorem own_not_vr {w : World} {p base sz m : Nat} {e t : TypeId} {v : Value} {xs : List Value} {cs : Array Value} (ho : w.ownsRow base e sz v m xs) (hv : Vr w p t cs) (hne : t ≠ e) : some p ≠ v.ownBlock := by
  intro hj
  rcases ho.2 with ⟨rfl, _⟩ | ⟨g, cap, cur, rfl, _, hh, _⟩
  · cases hj
  · injection hj with hj
    subst hj
    unfold Vr at hv
    rw [hh] at hv
    injection hv with hv
    injection hv with _ h2
    exact hne h2.symm
theorem vr_app {w1 w3 : World} {p base sz m : Nat} {e t : TypeId} {v : Value} {xs : List Value} {cs : Array Value} (ho : w1.ownsRow base e sz v m xs) (hv : Vr w1 p t cs) (hne : t ≠ e) (hg : w1.grownBy w3 v.ownBlock) : Vr w3 p t cs := hv.grown hg (own_not_vr ho hv hne)
theorem ne_qr : (62 : TypeId) ≠ 75 := by decide
theorem own_not_map' {P : Program} {w : World} {k e : TypeId} {b n base sz m : Nat} {v : Value} {xs : List Value} {F : Lit → Option Value} (ho : w.ownsRow base e sz v m xs) (h : MapV w P k b n F) : some b ≠ v.ownBlock := fun hj => own_not_map ho h b hj.symm rfl
/-- The queue behind the append, the store and the delete. -/
theorem iqu_fixed {Z w6 : World} {p b k wt nm n c5 : Nat} {A5 : Option Addr} {F : Lit → Option Value} {pd : Nat → Nat → Option Inp} {rows : List RowV} {r : RowV} (hn : rows.length = n) (hn6 : n < 6000)
    (VZ : Vr Z p 62 #[.int .i64 k, .int .i64 wt, .map (some b), .slice A5 ((n + 1 : Nat)) c5]) (OZ : Z.ownsRow 0 75 32 (.slice A5 (n + 1) c5) (n + 1) (rows.flatMap rowC ++ rowC r)) (hc : n + 1 ≤ c5) (hm : c5 ≤ maxLen)
    (hF : ∀ (t : Nat), t ≤ 10000 → (F (.int .i64 t)).getD noSlots = .agg (slotsC (pd t)).toArray) (MZ : MapV Z Try.prog 3 b nm F) (m1 : MapV w6 Try.prog 3 b nm (putF F (.int .i64 (n : Int)) none)) (m2 : Only (· = b) Z w6) :
    Iqu w6 p b (Value.slice A5 (n + 1) c5).ownBlock k wt nm (dropP pd n) (rows ++ [r]) := by
  have hl : (rows ++ [r]).length = n + 1 := by rw [List.length_append, hn]; rfl
  refine ⟨A5, c5, _, ?_, ?_, ?_, hm, m1, fun t ht => ?_, ?_⟩
  · rw [hl]
    exact VZ.only m2 (VZ.not_map MZ)
  · rw [hl]
  · rw [hl]; exact hc
  · by_cases e : t = n
    · subst e
      rw [putF_same]
      unfold dropP
      simp
      rfl
    · rw [putF_other _ _ (by intro h; injection h with _ h; omega), hF t ht]
      unfold dropP
      simp [e]
  · rw [hl, List.flatMap_append]
    have : [r].flatMap rowC = rowC r := by simp
    rw [this]
    exact own_same OZ fun j hj => m2.heap (OZ.lt j hj).2 (own_not_map OZ MZ j hj)
theorem own_cell {w : World} {base : Nat} {e : TypeId} {sz n : Nat} {v : Value} {xs : List Value} (h : w.ownsRow base e sz v n xs) {q : Addr} (hq : some q.block ≠ v.ownBlock) (u : Value) : (w.setCell q u).ownsRow base e sz v n xs :=
  own_same h fun j hj => Below.heap_setCell w q u j (fun e => hq (by rw [← e, hj]))
theorem grown_src {wr W1 Y : World} {row : Option Nat} {u : Option Nat} (g : W1.grownBy Y row) (g5 : u = row ∨ u = some W1.heap.size) (h : Below wr.heap.size wr W1) : ∃ W, Below wr.heap.size wr W ∧ W.grownBy Y row ∧ (u = row ∨ u = some W.heap.size) := ⟨W1, h, g, g5⟩
/-- What fix makes of a queue. -/
def RetFix (w : World) (p b : Nat) (g : Option Nat) (k wt nm : Nat) (pd : Nat → Nat → Option Inp) (rows : List RowV) (e : Ending) (w' : World) : Prop :=
  ∃ g', e = .returned (.tuple #[]) ∧ (g' = g ∨ ∃ j, g' = some j ∧ w.heap.size ≤ j) ∧ Iqu w' p b g' k wt nm (dropP pd rows.length) (rows ++ [fixRow k (lastRow rows) (pd rows.length)]) ∧ Only (Foot p b g) w w'
/-- The queue behind the append and the store. -/
structure FixMid (w Z : World) (p b : Nat) (g : Option Nat) (k wt nm n : Nat) (A5 : Option Addr) (c5 : Nat) (F : Lit → Option Value) (xs : List Value) : Prop where
  q : Vr Z p 62 #[.int .i64 k, .int .i64 wt, .map (some b), .slice A5 (n + 1) c5]
  o : Z.ownsRow 0 75 32 (.slice A5 (n + 1) c5) (n + 1) xs
  m : MapV Z Try.prog 3 b nm F
  c : n + 1 ≤ c5 ∧ c5 ≤ maxLen
  l : (Value.slice A5 (n + 1) c5).ownBlock = g ∨ ∃ j, (Value.slice A5 (n + 1) c5).ownBlock = some j ∧ w.heap.size ≤ j
  f : Only (Foot p b g) w Z
theorem fix_mid {w wr W1 Y3 : World} {p b : Nat} {g : Option Nat} {k wt nm n c c5 : Nat} {A A5 : Option Addr} {F : Lit → Option Value} {xs ys : List Value} (HVP : Vr w p 62 #[.int .i64 k, .int .i64 wt, .map (some b), .slice A n c]) (HM : MapV w Try.prog 3 b nm F)
    (HO : wr.ownsRow 0 75 32 (.slice A n c) n xs) (HG : (Value.slice A n c).ownBlock = g) (hB : Below w.heap.size w wr) (hb : Below wr.heap.size wr W1) (g1 : n + 1 ≤ c5) (g2 : c5 ≤ maxLen) (g3 : Y3.ownsRow 0 75 32 (.slice A5 (n + 1) c5) (n + 1) ys)
    (g4 : W1.grownBy Y3 (Value.slice A n c).ownBlock) (g5 : (Value.slice A5 (n + 1) c5).ownBlock = (Value.slice A n c).ownBlock ∨ (Value.slice A5 (n + 1) c5).ownBlock = some W1.heap.size) (VY : Vr Y3 p 62 #[.int .i64 k, .int .i64 wt, .map (some b), .slice A n c]) :
    FixMid w (Y3.setCell ⟨p, 3, none⟩ (.slice A5 (n + 1) c5)) p b g k wt nm n A5 c5 F ys := by
  have MW := (HM.call hB).call hb
  have hbp : p ≠ b := HVP.not_map HM
  refine ⟨by simpa using VY.set 3 (.slice A5 (n + 1) c5), own_cell g3 (own_not_vr g3 VY ne_qr) _, (MW.kept g4 (own_not_map' (own_below HO hb) MW)).setCell (Ne.symm hbp) _, ⟨g1, g2⟩, ?_, ?_⟩
  · rcases g5 with h | h
    · exact .inl (h.trans HG)
    · refine .inr ⟨_, h, ?_⟩
      have := hB.size
      have := hb.size
      omega
  · exact (((Only.of_below hB (Foot p b g) (fun j h1 h2 => by omega)).trans (Only.of_below hb (Foot p b g) (fun j h1 h2 => by omega))).grown g4 (fun j hj => .inl (.inr (.inr (HG.symm.trans hj))))).setCell (.inl (.inl rfl)) _
theorem fix_end {w Z w6 : World} {p b : Nat} {g : Option Nat} {k wt nm n c5 : Nat} {A5 : Option Addr} {F : Lit → Option Value} {pd : Nat → Nat → Option Inp} {rows : List RowV} {r : RowV} (hn : rows.length = n) (hn6 : n < 6000) (hr : r = fixRow k (lastRow rows) (pd rows.length))
    (hF : ∀ (t : Nat), t ≤ 10000 → (F (.int .i64 t)).getD noSlots = .agg (slotsC (pd t)).toArray) (h : FixMid w Z p b g k wt nm n A5 c5 F (rows.flatMap rowC ++ rowC r)) (m1 : MapV w6 Try.prog 3 b nm (putF F (.int .i64 (n : Int)) none)) (m2 : Only (· = b) Z w6) : RetFix w p b g k wt nm pd rows (.returned (.tuple #[])) w6 := by
  refine ⟨_, rfl, h.l, ?_, h.f.trans ?_⟩
  · rw [← hr, hn]
    exact iqu_fixed hn hn6 h.q h.o h.c.1 h.c.2 hF h.m m1 m2
  · exact m2.mono (fun j _ hj => .inr (.inl hj))
end Go.Proofs.Ytdjmaljldajpiaa
