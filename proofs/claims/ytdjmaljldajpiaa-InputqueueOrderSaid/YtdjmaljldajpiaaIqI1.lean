/-
  WHAT IS PROVED HERE: two queues side by side in memory; what a player's inputs do not touch. No condition beyond what each theorem states.
-/
import Derived.Test.YtdjmaljldajpiaaIqC1
namespace Go.Proofs.Ytdjmaljldajpiaa
set_option linter.unusedVariables false
open Go.ChangeShapes Go.WideShapes Go.ChangeAt Go.RowKit

/-- Two queues that agree but for player p's inputs. -/
structure Ind (p : Nat) (a b : QS) : Prop where
  len : a.2.length = b.2.length
  pend : ∀ t q, q ≠ p → a.1 t q = b.1 t q
  opt : ∀ t, (a.1 t p).isSome = (b.1 t p).isSome
  rows : ∀ (t : Nat) (r r' : RowV), a.2[t]? = some r → b.2[t]? = some r' → ∀ q, q ≠ p → r.1 q = r'.1 q
theorem Ind.start (p : Nat) : Ind p s0 s0 := ⟨rfl, fun _ _ _ => rfl, fun _ => rfl, fun t r r' h => by
  have : (s0.2)[t]? = none := rfl
  rw [this] at h
  cases h⟩
theorem Ind.isSome {p : Nat} {a b : QS} (h : Ind p a b) (t q : Nat) : (a.1 t q).isSome = (b.1 t q).isSome := by
  by_cases hq : q = p
  · subst hq; exact h.opt t
  · rw [h.pend t q hq]
theorem Ind.comp {p k t : Nat} {a b : QS} (h : Ind p a b) : compB k a.1 t = compB k b.1 t := by
  unfold compB
  congr 1
  funext i
  exact h.isSome t i
theorem Ind.due {p k wt : Nat} {now : Int} {a b : QS} (h : Ind p a b) : dueB k wt now a = dueB k wt now b := by
  unfold dueB
  rw [h.len, h.comp]
theorem snoc_get {α : Type} {l : List α} {x y : α} {t : Nat} (h : (l ++ [x])[t]? = some y) : (t < l.length ∧ l[t]? = some y) ∨ (t = l.length ∧ y = x) := by
  rcases Nat.lt_or_ge t l.length with h3 | h3
  · rw [List.getElem?_append_left h3] at h
    exact .inl ⟨h3, h⟩
  · rw [List.getElem?_append_right h3] at h
    have h4 : t - l.length = 0 := by
      rcases Nat.eq_zero_or_pos (t - l.length) with h5 | h5
      · exact h5
      · rw [List.getElem?_eq_none (by simp; omega)] at h
        cases h
    obtain rfl : t = l.length := by omega
    simp at h
    exact .inr ⟨rfl, h.symm⟩
theorem lastRow_get (rows : List RowV) : (rows = [] ∧ lastRow rows = zrow) ∨ (rows[rows.length - 1]? = some (lastRow rows)) := by
  rcases Nat.eq_zero_or_pos rows.length with h | h
  · exact .inl ⟨List.eq_nil_of_length_eq_zero h, lastRow_nil h⟩
  · right
    unfold lastRow
    rw [List.getLast?_eq_getElem?, List.getElem?_eq_getElem (by omega)]
    rfl
theorem Ind.last {p : Nat} {a b : QS} (h : Ind p a b) : ∀ q, q ≠ p → (lastRow a.2).1 q = (lastRow b.2).1 q := by
  intro q hq
  rcases lastRow_get a.2 with ⟨h1, h2⟩ | h1
  · have : b.2 = [] := List.eq_nil_of_length_eq_zero (by rw [← h.len, h1]; rfl)
    rw [h2, this, lastRow_nil rfl]
  · rcases lastRow_get b.2 with ⟨h3, h4⟩ | h3
    · have : a.2 = [] := List.eq_nil_of_length_eq_zero (by rw [h.len, h3]; rfl)
      rw [h4, this, lastRow_nil rfl]
    · rw [← h.len] at h3
      exact h.rows _ _ _ h1 h3 q hq
theorem Ind.step {p k : Nat} {a b : QS} (h : Ind p a b) : Ind p (stepQ k a) (stepQ k b) := by
  have hl := h.len
  refine ⟨by rw [stepQ_len, stepQ_len, hl], fun t q hq => ?_, fun t => ?_, fun t r r' h1 h2 q hq => ?_⟩
  · show dropP a.1 a.2.length t q = dropP b.1 b.2.length t q
    unfold dropP
    rw [hl, h.pend t q hq]
  · show (dropP a.1 a.2.length t p).isSome = (dropP b.1 b.2.length t p).isSome
    unfold dropP
    rw [hl]
    split
    · rfl
    · exact h.opt t
  · rcases snoc_get (l := a.2) h1 with ⟨h3, h4⟩ | ⟨h3, h4⟩
    · rcases snoc_get (l := b.2) h2 with ⟨h5, h6⟩ | ⟨h5, h6⟩
      · exact h.rows t r r' h4 h6 q hq
      · omega
    · rcases snoc_get (l := b.2) h2 with ⟨h5, h6⟩ | ⟨h5, h6⟩
      · omega
      · subst h4 h6
        show fixIn k _ _ q = fixIn k _ _ q
        unfold fixIn
        rw [h.pend _ q hq, hl, h.last q hq]
theorem Ind.adv {p k wt : Nat} {now : Int} {a b : QS} (h : Ind p a b) (ha : a.2.length ≤ 6000) : Ind p (Go.Proofs.Ytdjmaljldajpiaa.adv k wt now a) (Go.Proofs.Ytdjmaljldajpiaa.adv k wt now b) := by
  obtain ⟨m, hm⟩ : ∃ m, 6000 - a.2.length = m := ⟨_, rfl⟩
  induction m generalizing a b with
  | zero => rw [adv_full (s := a) (by omega), adv_full (s := b) (by rw [← h.len]; omega)]; exact h
  | succ m ih =>
    have hdb := h.due (k := k) (wt := wt) (now := now)
    rcases hd : dueB k wt now a with _ | _
    · rw [hd] at hdb
      rw [adv_stop hd, adv_stop hdb.symm]; exact h
    · rw [hd] at hdb
      rw [adv_step (by omega) hd, adv_step (by rw [← h.len]; omega) hdb.symm]
      exact ih h.step (by rw [stepQ_len]; omega) (by rw [stepQ_len]; omega)
/-- The error is the same. -/
theorem Ind.err {p k : Nat} {now pl tk : Int} {x y : Inp} {a b : QS} (h : Ind p a b) (hv : Val x ↔ Val y) : offerE k a.2.length a.1 now pl tk x = offerE k b.2.length b.1 now pl tk y := by
  unfold offerE
  rw [h.len, h.isSome]
  simp only [hv]
theorem Ind.off {p k : Nat} {now pl tk : Int} {x y : Inp} {a b : QS} (h : Ind p a b) (hv : Val x ↔ Val y) (hxy : pl ≠ (p : Int) → x = y) : Ind p (offS k now pl tk x a) (offS k now pl tk y b) := by
  have he := h.err (k := k) (now := now) (pl := pl) (tk := tk) hv
  unfold offS
  rw [← he]
  by_cases h0 : offerE k a.2.length a.1 now pl tk x = 0
  · obtain ⟨⟨a1, a2⟩, _⟩ := offerE_in (.inl h0)
    rw [if_pos h0, if_pos h0]
    refine ⟨h.len, fun t q hq => ?_, fun t => ?_, h.rows⟩
    · show offerP a.1 pl tk x t q = offerP b.1 pl tk y t q
      unfold offerP
      by_cases hc : t = tk.toNat ∧ q = pl.toNat
      · rw [if_pos hc, if_pos hc, hxy (by omega)]
      · rw [if_neg hc, if_neg hc, h.pend t q hq]
    · show (offerP a.1 pl tk x t p).isSome = (offerP b.1 pl tk y t p).isSome
      unfold offerP
      by_cases hc : t = tk.toNat ∧ p = pl.toNat
      · rw [if_pos hc, if_pos hc]
        rfl
      · rw [if_neg hc, if_neg hc, h.opt t]
  · rw [if_neg h0, if_neg h0]
    exact h

/-- Two queues side by side, all of whose blocks are newer than V. -/
structure Two (V w : World) (p b : Nat) (g : Option Nat) (p' b' : Nat) (g' : Option Nat) (k wt i : Nat) (s s' : QS) : Prop where
  q : ∃ nm, nm ≤ i ∧ Iqu w p b g k wt nm s.1 s.2
  q' : ∃ nm, nm ≤ i ∧ Iqu w p' b' g' k wt nm s'.1 s'.2
  sep : ∀ j, Foot p b g j → ¬ Foot p' b' g' j
  len : s.2.length ≤ 6000
  len' : s'.2.length ≤ 6000
  old : ∀ j, Foot p b g j → V.heap.size ≤ j
  old' : ∀ j, Foot p' b' g' j → V.heap.size ≤ j
  bel : Below V.heap.size V w
section
variable {V w w2 : World} {p b : Nat} {g g2 : Option Nat} {p' b' : Nat} {g' : Option Nat} {k wt i : Nat} {s s' s2 : QS}
theorem Two.swap (h : Two V w p b g p' b' g' k wt i s s') : Two V w p' b' g' p b g k wt i s' s :=
  ⟨h.q', h.q, fun j h1 h2 => h.sep j h2 h1, h.len', h.len, h.old', h.old, h.bel⟩
theorem Two.iqu (h : Two V w p b g p' b' g' k wt i s s') : Iqu w p b g k wt i s.1 s.2 := by
  obtain ⟨nm, hn, hI⟩ := h.q
  exact hI.more hn
theorem Two.below (h : Two V w p b g p' b' g' k wt i s s') (hb : Below w.heap.size w w2) : Two V w2 p b g p' b' g' k wt i s s' := by
  obtain ⟨nm, hn, hI⟩ := h.q
  obtain ⟨nm', hn', hI'⟩ := h.q'
  exact ⟨⟨nm, hn, hI.below hb⟩, ⟨nm', hn', hI'.below hb⟩, h.sep, h.len, h.len', h.old, h.old', h.bel.trans (hb.mono h.bel.size)⟩
/-- A step of the first queue. -/
theorem Two.mv {i2 : Nat} (h : Two V w p b g p' b' g' k wt i s s') (hI : Iqu w2 p b g2 k wt i2 s2.1 s2.2) (m : Mv w w2 p b g g2) (hi : i ≤ i2) (hl : s2.2.length ≤ 6000) : Two V w2 p b g2 p' b' g' k wt i2 s2 s' := by
  obtain ⟨nm', hn', hI'⟩ := h.q'
  have hb := m.belowB (B := V.heap.size) h.bel.size h.old
  refine ⟨⟨i2, Nat.le_refl _, hI⟩, ⟨nm', Nat.le_trans hn' hi, hI'.only m.2 fun j h1 h2 => h.sep j h2 h1⟩, fun j h1 h2 => ?_, hl, h.len', hb.2, h.old', h.bel.trans hb.1⟩
  have hj := hI'.lt j h2
  rcases h1 with r | r | r
  · exact h.sep j (.inl r) h2
  · exact h.sep j (.inr (.inl r)) h2
  · rcases m.1 with rfl | ⟨n, rfl, hn⟩
    · exact h.sep j (.inr (.inr r)) h2
    · injection r with r
      omega
theorem Two.up (h : Two V w p b g p' b' g' k wt i s s') {i2 : Nat} (hi : i ≤ i2) : Two V w p b g p' b' g' k wt i2 s s' := by
  obtain ⟨nm, hn, hI⟩ := h.q
  obtain ⟨nm', hn', hI'⟩ := h.q'
  exact ⟨⟨nm, Nat.le_trans hn hi, hI⟩, ⟨nm', Nat.le_trans hn' hi, hI'⟩, h.sep, h.len, h.len', h.old, h.old', h.bel⟩
end
/-- A block outside both queues. -/
def Out2 (w : World) (p b : Nat) (g : Option Nat) (p' b' : Nat) (g' : Option Nat) (j : Nat) : Prop := j < w.heap.size ∧ ¬ Foot p b g j ∧ ¬ Foot p' b' g' j
section
variable {V w w2 : World} {p b : Nat} {g g2 : Option Nat} {p' b' : Nat} {g' : Option Nat} {j : Nat}
theorem Out2.mv (h : Out2 w p b g p' b' g' j) (m : Mv w w2 p b g g2) : Out2 w2 p b g2 p' b' g' j ∧ w2.heap[j]? = w.heap[j]? :=
  ⟨⟨Nat.lt_of_lt_of_le h.1 m.size, (m.away h.1 h.2.1).2, h.2.2⟩, (m.away h.1 h.2.1).1⟩
theorem Out2.swap (h : Out2 w p b g p' b' g' j) : Out2 w p' b' g' p b g j := ⟨h.1, h.2.2, h.2.1⟩
theorem Out2.below (h : Out2 w p b g p' b' g' j) (hb : Below w.heap.size w w2) : Out2 w2 p b g p' b' g' j ∧ w2.heap[j]? = w.heap[j]? := ⟨⟨Nat.lt_of_lt_of_le h.1 hb.size, h.2⟩, hb.block j h.1⟩
end
/-- The two copies of an act, outside both queues. -/
structure ActT (w : World) (p b : Nat) (g : Option Nat) (p' b' : Nat) (g' : Option Nat) (i j : Nat) (X Y : Array Value) : Prop where
  x : Vr w i 36 X
  y : Vr w j 36 Y
  ox : Out2 w p b g p' b' g' i
  oy : Out2 w p b g p' b' g' j
section
variable {V w w2 : World} {p b : Nat} {g g2 : Option Nat} {p' b' : Nat} {g' : Option Nat} {i j : Nat} {X Y : Array Value} {sz n : Nat} {A : Option Addr} {xs : List Value}
theorem ActT.mv (h : ActT w p b g p' b' g' i j X Y) (m : Mv w w2 p b g g2) : ActT w2 p b g2 p' b' g' i j X Y :=
  ⟨h.x.same (h.ox.mv m).2, h.y.same (h.oy.mv m).2, (h.ox.mv m).1, (h.oy.mv m).1⟩
theorem ActT.swap (h : ActT w p b g p' b' g' i j X Y) : ActT w p' b' g' p b g i j X Y := ⟨h.x, h.y, h.ox.swap, h.oy.swap⟩
theorem ActT.below (h : ActT w p b g p' b' g' i j X Y) (hb : Below w.heap.size w w2) : ActT w2 p b g p' b' g' i j X Y :=
  ⟨h.x.call hb, h.y.call hb, (h.ox.below hb).1, (h.oy.below hb).1⟩
theorem ActT.cells (h : ActT w p b g p' b' g' i j X Y) : (∀ o, w.cell? ⟨i, o, none⟩ = X[o]?) ∧ (∀ o, w.cell? ⟨j, o, none⟩ = Y[o]?) := ⟨h.x.cell, h.y.cell⟩
/-- A slice outside both queues. -/
def RdT (w : World) (p b : Nat) (g : Option Nat) (p' b' : Nat) (g' : Option Nat) (sz : Nat) (A : Option Addr) (n : Nat) (xs : List Value) : Prop := RdA w p b g sz A n xs ∧ ∀ ad, A = some ad → ¬ Foot p' b' g' ad.block
theorem RdT.mv (h : RdT w p b g p' b' g' sz A n xs) (m : Mv w w2 p b g g2) : RdT w2 p b g2 p' b' g' sz A n xs := ⟨h.1.mv m, h.2⟩
theorem RdT.below (h : RdT w p b g p' b' g' sz A n xs) (hb : Below w.heap.size w w2) : RdT w2 p b g p' b' g' sz A n xs := ⟨h.1.below hb, h.2⟩
theorem RdT.swap (h : RdT w p b g p' b' g' sz A n xs) : RdT w p' b' g' p b g sz A n xs := ⟨⟨h.1.1, fun ad ha => ⟨(h.1.2 ad ha).1, h.2 ad ha⟩⟩, fun ad ha => (h.1.2 ad ha).2⟩
end
theorem kay2_nat (n : Int) : ∃ K : Nat, 2 + around n 7 = K ∧ 2 ≤ K ∧ K ≤ 8 := by
  have := around_bd n 7 (by omega)
  exact ⟨(2 + around n 7).toNat, by omega, by omega, by omega⟩
end Go.Proofs.Ytdjmaljldajpiaa
