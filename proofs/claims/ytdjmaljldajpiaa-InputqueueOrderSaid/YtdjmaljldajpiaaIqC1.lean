/-
  WHAT IS PROVED HERE: what the accepted inputs come to in the fixed rows, in plain terms. No condition beyond what each theorem states.
-/
import Derived.Test.YtdjmaljldajpiaaIqO
namespace Go.Proofs.Ytdjmaljldajpiaa
set_option linter.unusedVariables false
open Go.ChangeShapes Go.WideShapes Go.ChangeAt Go.RowKit

/-- The accepted input of a player for a tick: the last one. -/
def look : List Act → Nat → Nat → Option Inp
  | [], _, _ => none
  | a :: H, t, p => match look H t p with
    | some x => some x
    | none => if a.pl = p ∧ a.tk = t then some a.x else none
theorem look_snoc (H : List Act) (a : Act) (t p : Nat) : look (H ++ [a]) t p = if a.pl = p ∧ a.tk = t then some a.x else look H t p := by
  induction H with
  | nil => simp [look]
  | cons b H ih =>
    rw [List.cons_append, look, ih]
    by_cases h : a.pl = p ∧ a.tk = t
    · simp [h]
    · rw [if_neg h, if_neg h]
      rfl
/-- The row before a tick. -/
def prevRow (rows : List RowV) (t : Nat) : RowV := lastRow (rows.take t)
def wantIn (H : List Act) (rows : List RowV) (t p : Nat) : Inp := match look H t p with
  | some x => x
  | none => pred ((prevRow rows t).1 p)
/-- The accepted inputs and the state of the queue agree. -/
structure Cnt (k : Nat) (H : List Act) (s : QS) : Prop where
  pend : ∀ t p, s.2.length ≤ t → s.1 t p = look H t p
  rows : ∀ (t : Nat) (r : RowV), s.2[t]? = some r → ∀ p, p < k → r.1 p = wantIn H s.2 t p ∧ r.2 p = (look H t p).isNone
theorem Cnt.start (k : Nat) : Cnt k [] s0 := ⟨fun t p _ => rfl, fun t r h => by
  have : (s0.2)[t]? = none := rfl
  rw [this] at h
  cases h⟩
theorem prevRow_app {rows : List RowV} {r : RowV} {t : Nat} (h : t ≤ rows.length) : prevRow (rows ++ [r]) t = prevRow rows t := by
  unfold prevRow
  rw [List.take_append_of_le_length h]
theorem prevRow_all (rows : List RowV) : prevRow rows rows.length = lastRow rows := by
  unfold prevRow
  rw [List.take_length]
theorem Cnt.step {k : Nat} {H : List Act} {s : QS} (h : Cnt k H s) : Cnt k H (stepQ k s) := by
  refine ⟨fun t p ht => ?_, fun t r hr p hp => ?_⟩
  · rw [stepQ_len] at ht
    have h1 := h.pend t p (by omega)
    rw [← h1]
    show dropP s.1 s.2.length t p = _
    unfold dropP
    rw [if_neg (by omega)]
  · have hr' : (s.2 ++ [fixRow k (lastRow s.2) (s.1 s.2.length)])[t]? = some r := hr
    show r.1 p = wantIn H (s.2 ++ [_]) t p ∧ _
    rcases Nat.lt_or_ge t s.2.length with h3 | h3
    · rw [List.getElem?_append_left h3] at hr'
      have := h.rows t r hr' p hp
      unfold wantIn at this ⊢
      rw [prevRow_app (by omega)]
      exact this
    · rw [List.getElem?_append_right h3] at hr'
      have h4 : t - s.2.length = 0 := by
        rcases Nat.eq_zero_or_pos (t - s.2.length) with h5 | h5
        · exact h5
        · rw [List.getElem?_eq_none (by simp; omega)] at hr'
          cases hr'
      obtain rfl : t = s.2.length := by omega
      simp at hr'
      subst hr'
      have h5 := h.pend s.2.length p (Nat.le_refl _)
      unfold wantIn
      rw [prevRow_app (Nat.le_refl _), prevRow_all, ← h5]
      refine ⟨?_, ?_⟩
      · show fixIn k _ _ p = _
        unfold fixIn
        rw [if_pos hp]
        cases s.1 s.2.length p <;> rfl
      · show fixMiss k _ p = _
        unfold fixMiss
        rw [show decide (p < k) = true from decide_eq_true hp, Bool.true_and]
theorem Cnt.adv {k wt : Nat} {now : Int} {H : List Act} {s : QS} (h : Cnt k H s) : Cnt k H (adv k wt now s) :=
  adv_induct (R := Cnt k H) (fun u hu _ _ => hu.step) s h
theorem Cnt.refuse {k : Nat} {H : List Act} {s : QS} {now pl tk : Int} {x : Inp} (h : Cnt k H s) (he : ¬ offerE k s.2.length s.1 now pl tk x = 0) : Cnt k H (offS k now pl tk x s) := by
  unfold offS
  rw [if_neg he]
  exact h
theorem Cnt.accept {k : Nat} {H : List Act} {s : QS} {a : Act} {now : Int} (h : Cnt k H s) (he : offerE k s.2.length s.1 now a.pl a.tk a.x = 0) : Cnt k (H ++ [a]) (offS k now a.pl a.tk a.x s) := by
  obtain ⟨⟨a1, a2⟩, a3, ⟨a4, a5⟩, a6, a7, a8⟩ := offerE_in (.inl he)
  unfold offS
  rw [if_pos he]
  have hlow : ∀ t p, t < s.2.length → look (H ++ [a]) t p = look H t p := fun t p ht => by
    rw [look_snoc, if_neg (by omega)]
  refine ⟨fun t p ht => ?_, fun t r hr p hp => ?_⟩
  · have h1 := h.pend t p ht
    rw [look_snoc]
    show offerP s.1 a.pl a.tk a.x t p = _
    unfold offerP
    by_cases hc : t = a.tk.toNat ∧ p = a.pl.toNat
    · rw [if_pos hc, if_pos (by omega)]
    · rw [if_neg hc, if_neg (by omega), h1]
  · have hl := (List.getElem?_eq_some_iff.1 hr).1
    have h1 := h.rows t r hr p hp
    unfold wantIn at h1 ⊢
    rw [hlow t p hl]
    exact h1
section
variable {V w w' : World} {p b : Nat} {g : Option Nat} {k wt i : Nat} {s : QS} {e : TypeId} {sz n n' : Nat} {v v' : Value} {xs ys : List Value}
theorem LQ.app (h : LQ V w p b g k wt i s) (o : OwnA w p b g V.heap.size e sz v n xs) (hg : w.grownBy w' v.ownBlock) : LQ V w' p b g k wt i s := by
  obtain ⟨nm, hn, hI⟩ := h.q
  refine ⟨⟨nm, hn, hI.keep fun j hj => hg.block j (hI.lt j hj) fun e => o.2 j e.symm hj⟩, h.len, h.mv.1, h.mv.2.grown hg fun j hj => .inr (o.1.lt j hj).1⟩
theorem LQ.own (h : LQ V w p b g k wt i s) (o : OwnA w p b g V.heap.size e sz v n xs) (g3 : w'.ownsRow V.heap.size e sz v' n' ys) (g5 : v'.ownBlock = v.ownBlock ∨ v'.ownBlock = some w.heap.size) : OwnA w' p b g V.heap.size e sz v' n' ys := by
  obtain ⟨nm, hn, hI⟩ := h.q
  refine ⟨g3, fun j hj hf => ?_⟩
  rcases g5 with h1 | h1
  · exact o.2 j (h1.symm.trans hj) hf
  · rw [h1] at hj
    injection hj with hj
    have := hI.lt j hf
    omega
end
/-- Eight inputs in a row. -/
def flatF (f : Nat → Inp) : List Value := (List.range 8).flatMap fun i => inpC (f i)
theorem flatF_len (f : Nat → Inp) : (flatF f).length = 24 := by
  unfold flatF
  rw [block_len (fun i => inpC (f i)) 3 (fun i => rfl)]
  simp
theorem flatF_get (f : Nat → Inp) {i j : Nat} (hi : i < 8) (hj : j < 3) : (flatF f)[i * 3 + j]? = (inpC (f i))[j]? := by
  unfold flatF
  rw [block_get (fun i => inpC (f i)) 3 (fun i => rfl) (List.range 8) (by simpa using hi) hj]
  simp
theorem flatF_set (f : Nat → Inp) {i : Nat} (hi : i < 8) (v : Inp) : (((flatF f).set (i * 3) (.int .i64 v.1)).set (i * 3 + 1) (.int .i64 v.2.1)).set (i * 3 + 2) (.int .i64 v.2.2) = flatF (fun j => if j = i then v else f j) := by
  have hc : i = 0 ∨ i = 1 ∨ i = 2 ∨ i = 3 ∨ i = 4 ∨ i = 5 ∨ i = 6 ∨ i = 7 := by omega
  unfold flatF
  have e8 : List.range 8 = [0, 1, 2, 3, 4, 5, 6, 7] := rfl
  rw [e8]
  rcases hc with rfl | rfl | rfl | rfl | rfl | rfl | rfl | rfl <;> simp [inpC]
theorem actsL_get {H : List Act} {i j : Nat} (hi : i < H.length) (hj : j < 7) : (H.flatMap actC)[i * 7 + j]? = (actC H[i])[j]? := block_get actC 7 actC_len H hi hj
theorem own_only {w w' : World} {G : Nat → Prop} {base : Nat} {e : TypeId} {sz n : Nat} {v : Value} {xs : List Value} (h : w.ownsRow base e sz v n xs) (ho : Only G w w') (hG : ∀ j, v.ownBlock = some j → ¬ G j) : w'.ownsRow base e sz v n xs :=
  own_same h fun j hj => ho.heap (h.lt j hj).2 (hG j hj)
theorem want_eq (H : List Act) (rows : List RowV) (t p : Nat) : wantIn H rows t p = (look H t p).getD (pred ((prevRow rows t).1 p)) := by
  unfold wantIn
  cases look H t p <;> rfl
theorem firstI_get (k : Nat) (r : RowV) (q : Nat) (h : q < (firstI k r).length) : (firstI k r)[q] = r.1 q := by simp [firstI]
theorem firstB_get (k : Nat) (r : RowV) (q : Nat) (h : q < (firstB k r).length) : (firstB k r)[q] = r.2 q := by simp [firstB]
/-- An accepted act, opened. -/
theorem Rd.openActL {w : World} {B n k : Nat} {A : Option Addr} {H : List Act} (h : Rd w B 7 A n (H.flatMap actC)) (hk : k < n) :
    ∃ b o, ∃ hl : k < H.length, A = some ⟨b, o, none⟩ ∧ b < B ∧ w.cell? ⟨b, o + k * 7 + 2, none⟩ = some (.int .i64 H[k].pl) ∧ w.cell? ⟨b, o + k * 7 + 3, none⟩ = some (.int .i64 H[k].tk) ∧ w.cell? ⟨b, o + k * 7 + 4, none⟩ = some (.int .i64 H[k].x.1) ∧ w.cell? ⟨b, o + k * 7 + 5, none⟩ = some (.int .i64 H[k].x.2.1) ∧ w.cell? ⟨b, o + k * 7 + 6, none⟩ = some (.int .i64 H[k].x.2.2) := by
  have hlen : (H.flatMap actC).length = H.length * 7 := block_len actC 7 actC_len H
  have hn : H.length = n := by
    have := h.1
    rw [hlen] at this
    omega
  have hl : k < H.length := by omega
  have hne : H.flatMap actC ≠ [] := by
    intro e
    rw [e] at hlen
    simp at hlen
    omega
  obtain ⟨b, o, e, hb, hc⟩ := h.2 hne
  refine ⟨b, o, hl, e, hb, hc (k * 7 + 2) _ ?_, hc (k * 7 + 3) _ ?_, hc (k * 7 + 4) _ ?_, hc (k * 7 + 5) _ ?_, hc (k * 7 + 6) _ ?_⟩
  · exact actsL_get hl (j := 2) (by omega)
  · exact actsL_get hl (j := 3) (by omega)
  · exact actsL_get hl (j := 4) (by omega)
  · exact actsL_get hl (j := 5) (by omega)
  · exact actsL_get hl (j := 6) (by omega)
/-- A loop over the accepted inputs, from the front. -/
def lookTo (H : List Act) (i t p : Nat) : Option Inp := look (H.take i) t p
theorem lookTo_succ {H : List Act} {i : Nat} (h : i < H.length) (t p : Nat) : lookTo H (i + 1) t p = if H[i].pl = p ∧ H[i].tk = t then some H[i].x else lookTo H i t p := by
  unfold lookTo
  rw [List.take_succ_eq_append_getElem h, look_snoc]
theorem lookTo_all (H : List Act) (t p : Nat) : lookTo H H.length t p = look H t p := by
  unfold lookTo
  rw [List.take_length]
end Go.Proofs.Ytdjmaljldajpiaa
