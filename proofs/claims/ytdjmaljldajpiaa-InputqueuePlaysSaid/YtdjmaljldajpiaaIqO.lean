/-
  WHAT IS PROVED HERE: what the laws over inputqueue share: the state of their loops; no tick that is not due is fixed with a substitute. No condition beyond what each theorem states.
-/
import Derived.Test.YtdjmaljldajpiaaIqN2
import Derived.Test.YtdjmaljldajpiaaIqM
namespace Go.Proofs.Ytdjmaljldajpiaa
set_option linter.unusedVariables false
open Go.ChangeShapes Go.WideShapes Go.ChangeAt Go.RowKit
open Go.Maps (Keyed)

theorem compB_all {k t : Nat} {pd : PD} (h : compB k pd t = true) : ∀ i, i < k → (pd t i).isSome = true := by
  intro i hi
  unfold compB at h
  rw [List.all_eq_true] at h
  exact h i (by simpa using hi)
theorem adv_early {k wt : Nat} {now : Int} (s : QS) : ∀ (t : Nat) (r : RowV), (adv k wt now s).2[t]? = some r → s.2.length ≤ t → now - wt + 1 ≤ t → firstB k r = List.replicate k false := by
  have h := adv_induct (k := k) (wt := wt) (now := now) (R := fun u => s.2.length ≤ u.2.length ∧ ∀ (t : Nat) (r : RowV), u.2[t]? = some r → s.2.length ≤ t → now - wt + 1 ≤ t → ∀ i, i < k → r.2 i = false) (fun u hu hl hd => by
    refine ⟨by rw [stepQ_len]; omega, fun t r ht h1 h2 i hi => ?_⟩
    unfold stepQ at ht
    simp only at ht
    rcases Nat.lt_or_ge t u.2.length with h3 | h3
    · rw [List.getElem?_append_left h3] at ht
      exact hu.2 t r ht h1 h2 i hi
    · rw [List.getElem?_append_right h3] at ht
      have h4 : t - u.2.length = 0 := by
        rcases Nat.eq_zero_or_pos (t - u.2.length) with h5 | h5
        · exact h5
        · rw [List.getElem?_eq_none (by simp; omega)] at ht
          cases ht
      have h5 : t = u.2.length := by omega
      subst h5
      simp at ht
      subst ht
      unfold dueB at hd
      rw [show decide ((u.2.length : Int) + wt ≤ now) = false from decide_eq_false (by omega), Bool.or_false] at hd
      show fixMiss k _ i = false
      unfold fixMiss
      have := compB_all hd i hi
      rw [Option.isSome_iff_exists] at this
      obtain ⟨v, hv⟩ := this
      rw [hv]
      simp) s ⟨Nat.le_refl _, fun t r ht h1 h2 i hi => by
        have := (List.getElem?_eq_some_iff.1 ht).1
        omega⟩
  intro t r ht h1 h2
  unfold firstB
  refine List.ext_getElem (by simp) fun i h3 h4 => ?_
  simp at h3
  simpa using h.2 t r ht h1 h2 i h3
theorem adv_reach {k wt : Nat} {now : Int} (s : QS) (h : s.2.length ≤ 6000) (hn : now ≤ 5000) : now - wt + 1 ≤ ((adv k wt now s).2.length : Int) := by
  rcases adv_done (k := k) (wt := wt) (now := now) s h with h1 | h1
  · omega
  · unfold dueB at h1
    rw [Bool.or_eq_false_iff, decide_eq_false_iff_not] at h1
    omega
/-- What a law's loop holds of its queue. -/
structure LQ (V wr : World) (p b : Nat) (g : Option Nat) (k wt i : Nat) (s : QS) : Prop where
  q : ∃ nm, nm ≤ i ∧ Iqu wr p b g k wt nm s.1 s.2
  len : s.2.length ≤ 6000
  mv : Mv V wr p b none g
theorem Iqu.more {w : World} {p b : Nat} {g : Option Nat} {k wt nm nm' : Nat} {pd : PD} {rows : List RowV} (h : Iqu w p b g k wt nm pd rows) (hn : nm ≤ nm') : Iqu w p b g k wt nm' pd rows := by
  obtain ⟨A, c, F, h1, h2, h3, h4, h5, h6⟩ := h
  exact ⟨A, c, F, h1, h2, h3, h4, h5.mono hn, h6⟩
section
variable {V w w' : World} {p b : Nat} {g g' : Option Nat} {k wt i : Nat} {s s' : QS}
theorem LQ.iqu (h : LQ V w p b g k wt i s) : Iqu w p b g k wt i s.1 s.2 := by
  obtain ⟨nm, hn, hI⟩ := h.q
  exact hI.more hn
theorem LQ.below (h : LQ V w p b g k wt i s) (hb : Below w.heap.size w w') : LQ V w' p b g k wt i s := by
  obtain ⟨nm, hn, hI⟩ := h.q
  exact ⟨⟨nm, hn, hI.below hb⟩, h.len, h.mv.then hb⟩
theorem LQ.next (h : LQ V w p b g k wt i s) (hI : Iqu w' p b g' k wt (i + 1) s'.1 s'.2) (hm : Mv w w' p b g g') (hl : s'.2.length ≤ 6000) : LQ V w' p b g' k wt (i + 1) s' :=
  ⟨⟨i + 1, Nat.le_refl _, hI⟩, hl, h.mv.trans hm⟩
theorem LQ.same (h : LQ V w p b g k wt i s) (hI : Iqu w' p b g' k wt i s'.1 s'.2) (hm : Mv w w' p b g g') (hl : s'.2.length ≤ 6000) : LQ V w' p b g' k wt i s' :=
  ⟨⟨i, Nat.le_refl _, hI⟩, hl, h.mv.trans hm⟩
theorem LQ.up (h : LQ V w p b g k wt i s) {i' : Nat} (hi : i ≤ i') : LQ V w p b g k wt i' s := by
  obtain ⟨nm, hn, hI⟩ := h.q
  exact ⟨⟨nm, Nat.le_trans hn hi, hI⟩, h.len, h.mv⟩
end
/-- An act, opened. -/
theorem RdA.openAct {w : World} {p b : Nat} {g : Option Nat} {A : Option Addr} {m i : Nat} {l : List Int} {k : Int} (h : RdA w p b g 7 A m (actsC l k m)) (hi : i < m) :
    ∃ b0 o0, A = some ⟨b0, o0, none⟩ ∧ b0 < w.heap.size ∧ w.cell? ⟨b0, o0 + i * 7, none⟩ = some (.int .i64 (actAt l k i).d) ∧ w.cell? ⟨b0, o0 + i * 7 + 1, none⟩ = some (.int .i64 (actAt l k i).now) ∧ w.cell? ⟨b0, o0 + i * 7 + 2, none⟩ = some (.int .i64 (actAt l k i).pl) ∧ w.cell? ⟨b0, o0 + i * 7 + 3, none⟩ = some (.int .i64 (actAt l k i).tk) ∧ w.cell? ⟨b0, o0 + i * 7 + 4, none⟩ = some (.int .i64 (actAt l k i).x.1) ∧ w.cell? ⟨b0, o0 + i * 7 + 5, none⟩ = some (.int .i64 (actAt l k i).x.2.1) ∧ w.cell? ⟨b0, o0 + i * 7 + 6, none⟩ = some (.int .i64 (actAt l k i).x.2.2) := by
  have hne : actsC l k m ≠ [] := by
    intro e
    have := actsC_len l k m
    rw [e] at this
    simp at this
    omega
  obtain ⟨b0, o0, e, hb, hc⟩ := h.1.2 hne
  refine ⟨b0, o0, e, hb, hc (i * 7) _ ?_, hc (i * 7 + 1) _ ?_, hc (i * 7 + 2) _ ?_, hc (i * 7 + 3) _ ?_, hc (i * 7 + 4) _ ?_, hc (i * 7 + 5) _ ?_, hc (i * 7 + 6) _ ?_⟩
  · exact actsC_get l k hi (j := 0) (by omega)
  · exact actsC_get l k hi (j := 1) (by omega)
  · exact actsC_get l k hi (j := 2) (by omega)
  · exact actsC_get l k hi (j := 3) (by omega)
  · exact actsC_get l k hi (j := 4) (by omega)
  · exact actsC_get l k hi (j := 5) (by omega)
  · exact actsC_get l k hi (j := 6) (by omega)
/-- The numbers of an act, as letters. -/
theorem act_letters (l : List Int) {k : Int} (hk : 1 ≤ k) (hk8 : k ≤ 8) {i : Nat} (hi : i < 40) : ∃ d now pl tk x y z : Int, actAt l k i = ⟨d, now, pl, tk, (x, y, z)⟩ ∧ (d = 0 ∨ d = 1) ∧ (0 ≤ now ∧ now ≤ 80) ∧ (0 ≤ pl ∧ pl ≤ 8) ∧ (-3 ≤ tk ∧ tk ≤ 100) := by
  have h := actAt_bd l hk hk8 hi
  have h2 := nowAt_bd l (i + 1)
  obtain ⟨a, ha⟩ : ∃ a, actAt l k i = a := ⟨_, rfl⟩
  rw [ha] at h ⊢
  obtain ⟨h3, h4, h5, h6⟩ := h
  obtain ⟨d, now, pl, tk, x, y, z⟩ := a
  exact ⟨d, now, pl, tk, x, y, z, rfl, h6, by simp only at h3; omega, h4, h5⟩
theorem ret_val {a b : Int} (h : a = b) : Value.int .i64 a = .int .i64 b := by rw [h]
theorem kay_nat (n : Int) : ∃ K : Nat, 1 + around n 8 = K ∧ 1 ≤ K ∧ K ≤ 8 := by
  have := around_bd n 8 (by omega)
  exact ⟨(1 + around n 8).toNat, by omega, by omega, by omega⟩
end Go.Proofs.Ytdjmaljldajpiaa
