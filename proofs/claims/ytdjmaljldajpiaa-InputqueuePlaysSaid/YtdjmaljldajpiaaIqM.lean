/-
  WHAT IS PROVED HERE: what Advance comes to, in plain terms; the walk of the law InputqueueEnds. No condition but that the numbers are a machine's.
-/
import Derived.Test.YtdjmaljldajpiaaIqL
namespace Go.Proofs.Ytdjmaljldajpiaa
set_option linter.unusedVariables false
open Go.ChangeShapes Go.WideShapes Go.ChangeAt Go.RowKit
open Go.Maps (Keyed)

theorem adv_done {k wt : Nat} {now : Int} : ∀ s : QS, s.2.length ≤ 6000 → (adv k wt now s).2.length = 6000 ∨ dueB k wt now (adv k wt now s) = false := by
  intro s hs
  obtain ⟨m, hm⟩ : ∃ m, 6000 - s.2.length = m := ⟨_, rfl⟩
  induction m generalizing s with
  | zero => rw [adv_full (by omega)]; exact .inl (by omega)
  | succ m ih =>
    rcases hd : dueB k wt now s with _ | _
    · rw [adv_stop hd]; exact .inr hd
    · rw [adv_step (by omega) hd]
      exact ih _ (by rw [stepQ_len]; omega) (by rw [stepQ_len]; omega)
theorem compB_none {k t : Nat} (hk : 1 ≤ k) : compB k (fun _ _ => none) t = false := compB_no (i := 0) (by omega) rfl
theorem dropP_none (t : Nat) : dropP (fun _ _ => none) t = fun _ _ => none := by
  funext a b
  unfold dropP
  split <;> rfl
theorem adv_ends {k wt : Nat} {now : Int} (hk : 1 ≤ k) (s : QS) (h0 : s.1 = fun _ _ => none) (h : s.2.length ≤ 6000) :
    (adv k wt now s).1 = (fun _ _ => none) ∧ (adv k wt now s).2.length ≤ 6000 ∧ s.2.length ≤ (adv k wt now s).2.length ∧ ((adv k wt now s).2.length = s.2.length ∨ ((adv k wt now s).2.length : Int) + wt ≤ now + 1) ∧ ((adv k wt now s).2.length = 6000 ∨ now < (adv k wt now s).2.length + wt) := by
  have h1 := adv_induct (k := k) (wt := wt) (now := now) (R := fun u => u.1 = (fun _ _ => none) ∧ u.2.length ≤ 6000 ∧ s.2.length ≤ u.2.length ∧ (u.2.length = s.2.length ∨ (u.2.length : Int) + wt ≤ now + 1)) (fun u hu hl hd => by
    unfold dueB at hd
    rw [hu.1, compB_none hk, Bool.false_or, decide_eq_true_iff] at hd
    refine ⟨?_, by rw [stepQ_len]; omega, by rw [stepQ_len]; omega, ?_⟩
    · show dropP u.1 u.2.length = _
      rw [hu.1, dropP_none]
    · rw [stepQ_len]
      omega) s ⟨h0, h, Nat.le_refl _, .inl rfl⟩
  refine ⟨h1.1, h1.2.1, h1.2.2.1, h1.2.2.2, ?_⟩
  rcases adv_done (k := k) (wt := wt) (now := now) s h with h2 | h2
  · exact .inl h2
  · refine .inr ?_
    unfold dueB at h2
    rw [h1.1, compB_none hk, Bool.false_or, decide_eq_false_iff_not] at h2
    omega
theorem wait_nat (n : Int) : ∃ W : Nat, around n 9 = W ∧ W ≤ 8 := by
  have := around_bd n 9 (by omega)
  exact ⟨(around n 9).toNat, by omega, by omega⟩
theorem val0 : Val (0, 0, 0) := by decide

set_option maxRecDepth 100000 in
set_option maxHeartbeats 1000000 in
theorem ends_walk (a c : Int) (w : World) (ha : I64 a) (hc : I64 c) : Calls Try.prog 9 #[.int .i64 a, .int .i64 c] w fun e w' => e = .returned (.bool true) ∧ Below w.heap.size w w' := by
  obtain ⟨W, hW, hW8⟩ := wait_nat a
  have HW := Lib.hid hW
  have hxb := around_bd c 1000 (by omega)
  obtain ⟨x, hx⟩ : ∃ x, around c 1000 = x := ⟨_, rfl⟩
  rw [hx] at hxb
  have HX := Lib.hid hx
  obtain ⟨hx0, hx1⟩ := hxb
  obtain ⟨s1, hs1⟩ : ∃ s, adv 1 W x s0 = s := ⟨_, rfl⟩
  obtain ⟨s2, hs2⟩ : ∃ s, adv 1 W (x + 6008) s1 = s := ⟨_, rfl⟩
  have e1 := adv_ends (k := 1) (wt := W) (now := x) (by omega) s0 rfl (by decide)
  rw [hs1] at e1
  have e2 := adv_ends (k := 1) (wt := W) (now := x + 6008) (by omega) s1 e1.1 e1.2.1
  rw [hs2] at e2
  have z0 : s0.2.length = 0 := rfl
  rw [z0] at e1
  have g2 : s2.2.length = 6000 := by omega
  obtain ⟨n1, hn1⟩ : ∃ n, s1.2.length = n := ⟨_, rfl⟩
  rw [hn1] at e1 e2
  have hle := e1.2.1
  have hq : (n1 = 0 ∧ x - W + 1 ≤ 0) ∨ ((n1 : Int) = x - W + 1 ∧ 0 < x - W + 1) := by omega
  have hs3 : adv 1 W (x + 6009) s2 = s2 := adv_full (by omega)
  have E6 : offerE 1 s2.2.length s2.1 (x + 6009) 0 6000 (0, 0, 0) = 18 := by unfold offerE; rw [if_neg (by omega), if_neg (by simpa using val0), if_pos (by omega)]
  have E5 : offerE 1 s2.2.length s2.1 (x + 6009) 0 5999 (0, 0, 0) = 20 := by unfold offerE; rw [if_neg (by omega), if_neg (by simpa using val0), if_neg (by omega), if_pos (by omega)]
  have hof : offS 1 (x + 6009) 0 6000 (0, 0, 0) s2 = s2 := by unfold offS; rw [if_neg (by omega)]
  have hof5 : offS 1 (x + 6009) 0 5999 (0, 0, 0) s2 = s2 := by unfold offS; rw [if_neg (by omega)]
  have HS := Lib.hid (And.intro hs1 (And.intro hs2 hs3))
  have HE := Lib.hid (And.intro E6 (And.intro E5 (And.intro hof hof5)))
  have HN := Lib.hid (And.intro hn1 g2)
  unfold I64 at ha hc
  clear hW hx hs1 hs2 hs3 E6 E5 hof hof5 e1 e2 g2 hn1 z0
  have key : ∀ v : Int, (n1 : Int) = v → 0 ≤ v → v ≤ 6000 → (v = 0 ∧ x - W + 1 ≤ 0 ∨ v = x - W + 1 ∧ 0 < x - W + 1) → Calls Try.prog 9 #[.int .i64 a, .int .i64 c] w fun e w' => e = .returned (.bool true) ∧ Below w.heap.size w w' := by
    intro v hv h0 h6 hq
    have HV := Lib.hid hv
    clear hv
    obtain ⟨ha1, ha2⟩ := ha
    obtain ⟨hc1, hc2⟩ := hc
    go_enter Try.func9, Try.ntmps9
    go_wp2_with fail
    refine (around_any a 9 _ ha1 ha2 (by omega) (by omega)).mono ?_
    rintro e w_ ⟨rfl, rfl⟩
    rw [HW.out]
    go_wp2_with fail
    refine (new_q 1 W _ (by omega) (by omega) (by omega)).mono ?_
    rintro e w1 ⟨p, b, rfl, hI1, hF1, hb1⟩
    have H1 := Lib.hid (And.intro hI1 hF1)
    clear hI1 hF1
    go_wp2_with fail
    refine (around_any c 1000 _ hc1 hc2 (by omega) (by omega)).mono ?_
    rintro e w_ ⟨rfl, rfl⟩
    rw [HX.out]
    go_wp2_with fail
    refine (advance_q p b none 1 W 0 s0 _ _ s1 v H1.out.1 (by rw [show (6000 + x - 6000 : Int) = x from by omega]; exact HS.out.1) (by rw [HN.out.1, HV.out]; exact Int.sub_zero v) (i64_small (by omega) (by omega)) (by omega) (by omega) (by decide)).mono ?_
    rintro e w2 ⟨rfl, g2, hI2, m2⟩
    have H2 := Lib.hid (And.intro hI2 m2)
    clear hI2 m2
    go_wp2_with fail
    refine (advance_q p b g2 1 W 0 s1 _ _ s2 (6000 - v) H2.out.1 (by rw [show (6000 + x + 8 : Int) = x + 6008 from by omega]; exact HS.out.2.1) (by rw [HN.out.1, HV.out, HN.out.2]; rfl) (i64_small (by omega) (by omega)) (by omega) (by omega) (by rw [HN.out.1]; exact hle)).mono ?_
    rintro e w3 ⟨rfl, g3, hI3, m3⟩
    have H3 := Lib.hid (And.intro hI3 m3)
    clear hI3 m3
    go_wp2_with fail
    refine (fixed_no p b g3 1 W 0 s2.1 s2.2 6000 _ H3.out.1 (by rw [HN.out.2]; omega)).mono ?_
    rintro e w_ ⟨rfl, rfl⟩
    rcases hq with ⟨rfl, q2⟩ | ⟨q1, q2⟩
    · have hr1 : ¬ 0 < x - W + 1 := by omega
      go_wp2_with fail
      refine (next_any p b g3 1 W 0 s2.1 s2.2 _ H3.out.1).mono ?_
      rintro e w_ ⟨rfl, rfl⟩
      rw [HN.out.2]
      go_wp2_with fail
      refine (advance_q p b g3 1 W 0 s2 _ _ s2 0 H3.out.1 (by rw [show (6000 + x + 9 : Int) = x + 6009 from by omega]; exact HS.out.2.2) (Int.sub_self _) (i64_small (by omega) (by omega)) (by omega) (by omega) (by rw [HN.out.2]; omega)).mono ?_
      rintro e w4 ⟨rfl, g4, hI4, m4⟩
      have H4 := Lib.hid (And.intro hI4 m4)
      clear hI4 m4
      go_wp2_with fail
      refine (offer_q p b g4 1 W 0 s2 _ _ 0 6000 0 0 0 s2 18 H4.out.1 (by rw [show (6000 + x + 9 : Int) = x + 6009 from by omega]; exact HE.out.2.2.1) (by rw [show (6000 + x + 9 : Int) = x + 6009 from by omega]; exact HE.out.1) (i64_small (by omega) (by omega)) (i64_small (by omega) (by omega)) (i64_small (by omega) (by omega)) (by omega) (by rw [HN.out.2]; omega) (by omega)).mono ?_
      rintro e w5 ⟨rfl, hI5, m5⟩
      have H5 := Lib.hid (And.intro hI5 m5)
      clear hI5 m5
      go_wp2_with fail
      refine (offer_q p b g4 1 W 1 s2 _ _ 0 5999 0 0 0 s2 20 H5.out.1 (by rw [show (6000 + x + 9 : Int) = x + 6009 from by omega]; exact HE.out.2.2.2) (by rw [show (6000 + x + 9 : Int) = x + 6009 from by omega]; exact HE.out.2.1) (i64_small (by omega) (by omega)) (i64_small (by omega) (by omega)) (i64_small (by omega) (by omega)) (by omega) (by rw [HN.out.2]; omega) (by omega)).mono ?_
      rintro e w6 ⟨rfl, hI6, m6⟩
      have HB := Lib.hid (((((H2.out.2.trans H3.out.2).trans H4.out.2).trans H5.out.2).trans m6).belowB hb1.size H1.out.2).1
      clear hI6 m6
      go_wp2_with fail
      refine (lives_any _).mono ?_
      rintro e w7 ⟨rfl, hb7⟩
      go_wp2
      go_ret
      exact ⟨rfl, b_call (hb1.trans HB.out) hb7⟩
    · have hr1 : (v == 6000 + x - 6000 - W + 1) = true := by rw [beq_iff_eq]; omega
      have hr2 : (v + (6000 - v) == 6000) = true := by rw [beq_iff_eq]; omega
      clear q1
      go_wp2_with fail
      refine (next_any p b g3 1 W 0 s2.1 s2.2 _ H3.out.1).mono ?_
      rintro e w_ ⟨rfl, rfl⟩
      rw [HN.out.2]
      go_wp2_with fail
      refine (advance_q p b g3 1 W 0 s2 _ _ s2 0 H3.out.1 (by rw [show (6000 + x + 9 : Int) = x + 6009 from by omega]; exact HS.out.2.2) (Int.sub_self _) (i64_small (by omega) (by omega)) (by omega) (by omega) (by rw [HN.out.2]; omega)).mono ?_
      rintro e w4 ⟨rfl, g4, hI4, m4⟩
      have H4 := Lib.hid (And.intro hI4 m4)
      clear hI4 m4
      go_wp2_with fail
      refine (offer_q p b g4 1 W 0 s2 _ _ 0 6000 0 0 0 s2 18 H4.out.1 (by rw [show (6000 + x + 9 : Int) = x + 6009 from by omega]; exact HE.out.2.2.1) (by rw [show (6000 + x + 9 : Int) = x + 6009 from by omega]; exact HE.out.1) (i64_small (by omega) (by omega)) (i64_small (by omega) (by omega)) (i64_small (by omega) (by omega)) (by omega) (by rw [HN.out.2]; omega) (by omega)).mono ?_
      rintro e w5 ⟨rfl, hI5, m5⟩
      have H5 := Lib.hid (And.intro hI5 m5)
      clear hI5 m5
      go_wp2_with fail
      refine (offer_q p b g4 1 W 1 s2 _ _ 0 5999 0 0 0 s2 20 H5.out.1 (by rw [show (6000 + x + 9 : Int) = x + 6009 from by omega]; exact HE.out.2.2.2) (by rw [show (6000 + x + 9 : Int) = x + 6009 from by omega]; exact HE.out.2.1) (i64_small (by omega) (by omega)) (i64_small (by omega) (by omega)) (i64_small (by omega) (by omega)) (by omega) (by rw [HN.out.2]; omega) (by omega)).mono ?_
      rintro e w6 ⟨rfl, hI6, m6⟩
      have HB := Lib.hid (((((H2.out.2.trans H3.out.2).trans H4.out.2).trans H5.out.2).trans m6).belowB hb1.size H1.out.2).1
      clear hI6 m6
      go_wp2_with fail
      refine (lives_any _).mono ?_
      rintro e w7 ⟨rfl, hb7⟩
      go_wp2
      go_ret
      exact ⟨rfl, b_call (hb1.trans HB.out) hb7⟩
  rcases hq with ⟨q1, q2⟩ | ⟨q1, q2⟩
  · exact key 0 (by omega) (by omega) (by omega) (.inl ⟨rfl, q2⟩)
  · exact key (x - W + 1) (by omega) (by omega) (by omega) (.inr ⟨rfl, q2⟩)
end Go.Proofs.Ytdjmaljldajpiaa
