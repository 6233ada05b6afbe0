/-
  WHAT IS PROVED HERE: the contract of package inputqueue's Advance. No condition but that the queue lies in memory as stated.
-/
import Derived.Test.YtdjmaljldajpiaaIqRfull
import Derived.Test.YtdjmaljldajpiaaIqRcomp
import Derived.Test.YtdjmaljldajpiaaIqRdue
import Derived.Test.YtdjmaljldajpiaaIqRwait
namespace Go.Proofs.Ytdjmaljldajpiaa
set_option linter.unusedVariables false
open Go.ChangeShapes Go.WideShapes Go.ChangeAt Go.RowKit
open Go.Maps (Keyed)

set_option maxRecDepth 100000 in
set_option maxHeartbeats 4000000 in
theorem advance_any (p b : Nat) (g : Option Nat) (k wt nm : Nat) (now : Int) (s : QS) (w : World) (h : Iqu w p b g k wt nm s.1 s.2) (hn : I64 now) (hk : k ≤ 8) (hwt : wt ≤ 8) (hr : s.2.length ≤ 6000) :
    Calls Try.prog 14 #[.pointer (some ⟨p, 0, none⟩), .int .i64 now] w (RetAdv w p b g k wt nm now s) := by
  have HQ := Lib.hid h
  obtain ⟨A, c, h0, h1, h2, h3, h4, h5, hown⟩ := h.cells
  have hnn := hn
  unfold I64 at hn
  obtain ⟨n0, hn0⟩ : ∃ n, s.2.length = n := ⟨_, rfl⟩
  rw [hn0] at h3 h4 hr
  have HN0 := Lib.hid hn0
  clear h hown hn0
  go_enter Try.func14, Try.ntmps14
  go_wp2
  go_loopw [] (fun wr => ∃ (s' : QS) (n : Nat), n0 ≤ n ∧ n ≤ 6000 ∧ Hid (s'.2.length = n ∧ adv k wt now s' = adv k wt now s ∧ QAt w wr p b g k wt nm s')) (fun wr => 6000 - lenAt wr p)
  case atStart => exact ⟨s, n0, by omega, by omega, Lib.hid ⟨HN0.out, rfl, QAt.start HQ.out⟩⟩
  case round =>
    clear h0 h1 h2 h3 h4 h5
    obtain ⟨s', n, hn1, hn2, HS⟩ := hrel
    obtain ⟨g', _, hI', _⟩ := HS.out.2.2
    have HI := Lib.hid hI'
    obtain ⟨A', c', h0, h1, h2, h3, h4, h5, _⟩ := hI'.cells
    have hpl := hI'.lt p (.inl rfl)
    have HLA := Lib.hid hI'.lenAt
    rw [HS.out.1] at h3 h4 HLA
    clear hI'
    obtain ⟨q2, hq2⟩ : ∃ q, compB k s'.1 s'.2.length = q := ⟨_, rfl⟩
    have HC := Lib.hid hq2
    clear hq2
    have hdis : dueB k wt now s' = (q2 || decide ((n : Int) + wt ≤ now)) := by unfold dueB; rw [HC.out, HS.out.1]
    have HD := Lib.hid hdis
    clear hdis
    by_cases c1 : n < 6000
    · rcases q2 with _ | _
      · by_cases c2 : (n : Int) + wt ≤ now
        · go_wp2
          refine Code.wp_mono OnlyN.then (adv_due _ p b g' k wt nm now s' wr _ _ _ _ _ _ _ _ _ _ _ _ _ _ _ _ _ _ _ _ _ _ _ _ _ _ _ _ _ _ _ _ _ _ _ _ _ _ _ _ _ _  HI.out hnn hk hwt (by rw [HS.out.1]; exact hn2) (by rw [HS.out.1]; exact c1) HC.out (by rw [HS.out.1]; omega) ?_)
          intro w1 v11 v12 v13 v14 v15 v16 v17 v18 v19 v20 v21 v22 v23 v24 v25 v26 v27 v28 v29 v30 v31 v32 v33 hb1
          have HX := Lib.hid (HS.out.2.2.below hb1)
          clear hb1
          go_wp2_with fail
          have HFX := Lib.hid (adv_step (k := k) (wt := wt) (now := now) (s := s') (by rw [HS.out.1]; exact c1) (by rw [HD.out]; simp [c2]))
          obtain ⟨g2, k1, hI2, k2⟩ := HX.out
          have HK := Lib.hid (And.intro k1 k2)
          refine (fix_any p b g2 k wt nm s'.1 s'.2 _ hI2 hk (by rw [HS.out.1]; exact c1)).mono ?_
          intro e w2 hf
          obtain ⟨g3, rfl, f2, f3, f4⟩ := hf
          have HW2 := Lib.hid (show QAt w w2 p b g k wt nm (stepQ k s') from QAt.fix (e := .returned (.tuple #[])) HK.out.1 HK.out.2 ⟨g3, rfl, f2, f3, f4⟩)
          go_wp2
          go_roundw
          case rel => exact ⟨stepQ k s', n + 1, by omega, by omega, Lib.hid ⟨by rw [stepQ_len, HS.out.1], HFX.out.symm.trans HS.out.2.1, HW2.out⟩⟩
          case measure =>
            have e1 := HLA.out
            have e2 := HW2.out.lenAt
            rw [e1, e2, stepQ_len, HS.out.1]
            omega
        · go_wp2
          refine Code.wp_mono OnlyN.then (adv_wait _ p b g' k wt nm now s' wr _ _ _ _ _ _ _ _ _ _ _ _ _ _ _ _ _ _ _ _ _ _ _ _ _ _ _ _ _ _ _ _ _ _ _ _ _ _ _ _ _ _  HI.out hnn hk hwt (by rw [HS.out.1]; exact hn2) (by rw [HS.out.1]; exact c1) HC.out (by rw [HS.out.1]; omega) ?_)
          intro w1 v11 v12 v13 v14 v15 v16 v17 v18 v19 v20 v21 v22 v23 v24 v25 v26 v27 v28 v29 v30 v31 v32 v33 hb1
          have HX := Lib.hid (HS.out.2.2.below hb1)
          clear hb1
          obtain ⟨g2, k1, hI2, k2⟩ := HX.out
          obtain ⟨A2, cc, z0, z1, z2, z3, z4, z5, _⟩ := hI2.cells
          rw [HS.out.1] at z3
          have HFX := Lib.hid (show adv k wt now s = s' from HS.out.2.1.symm.trans (adv_stop (by rw [HD.out]; simp; omega)))
          clear hI2 k1 k2
          go_wp2
          go_ret
          exact ⟨ret_int (by rw [HFX.out, HS.out.1, HN0.out]), by rw [HFX.out]; exact HX.out⟩
      · go_wp2
        refine Code.wp_mono OnlyN.then (adv_comp _ p b g' k wt nm now s' wr _ _ _ _ _ _ _ _ _ _ _ _ _ _ _ _ _ _ _ _ _ _ _ _ _ _ _ _ _ _ _ _ _ _ _ _ _ _ _ _ _ _  HI.out hnn hk hwt (by rw [HS.out.1]; exact hn2) (by rw [HS.out.1]; exact c1) HC.out ?_)
        intro w1 v11 v12 v13 v14 v15 v16 v17 v18 v19 v20 v21 v22 v23 v24 v25 v26 v27 v28 v29 v30 v31 v32 v33 hb1
        have HX := Lib.hid (HS.out.2.2.below hb1)
        clear hb1
        go_wp2_with fail
        have HFX := Lib.hid (adv_step (k := k) (wt := wt) (now := now) (s := s') (by rw [HS.out.1]; exact c1) (by rw [HD.out]; simp))
        obtain ⟨g2, k1, hI2, k2⟩ := HX.out
        have HK := Lib.hid (And.intro k1 k2)
        refine (fix_any p b g2 k wt nm s'.1 s'.2 _ hI2 hk (by rw [HS.out.1]; exact c1)).mono ?_
        intro e w2 hf
        obtain ⟨g3, rfl, f2, f3, f4⟩ := hf
        have HW2 := Lib.hid (show QAt w w2 p b g k wt nm (stepQ k s') from QAt.fix (e := .returned (.tuple #[])) HK.out.1 HK.out.2 ⟨g3, rfl, f2, f3, f4⟩)
        go_wp2
        go_roundw
        case rel => exact ⟨stepQ k s', n + 1, by omega, by omega, Lib.hid ⟨by rw [stepQ_len, HS.out.1], HFX.out.symm.trans HS.out.2.1, HW2.out⟩⟩
        case measure =>
          have e1 := HLA.out
          have e2 := HW2.out.lenAt
          rw [e1, e2, stepQ_len, HS.out.1]
          omega
    · go_wp2
      refine Code.wp_mono OnlyN.then (adv_over _ p b g' k wt nm now s' wr _ _ _ _ _ _ _ _ _ _ _ _ _ _ _ _ _ _ _ _ _ _ _ _ _ _ _ _ _ _ _ _ _ _ _ _ _ _ _ _ _ _  HI.out hnn hk hwt (by rw [HS.out.1]; exact hn2) (by rw [HS.out.1]; exact c1) ?_)
      intro w1 v11 v12 v13 v14 v15 v16 v17 v18 v19 v20 v21 v22 v23 v24 v25 v26 v27 v28 v29 v30 v31 v32 v33 hb1
      have HX := Lib.hid (HS.out.2.2.below hb1)
      clear hb1
      obtain ⟨g2, k1, hI2, k2⟩ := HX.out
      obtain ⟨A2, cc, z0, z1, z2, z3, z4, z5, _⟩ := hI2.cells
      rw [HS.out.1] at z3
      have HFX := Lib.hid (show adv k wt now s = s' from HS.out.2.1.symm.trans (adv_full (by rw [HS.out.1]; omega)))
      clear hI2 k1 k2
      go_wp2
      go_ret
      exact ⟨ret_int (by rw [HFX.out, HS.out.1, HN0.out]), by rw [HFX.out]; exact HX.out⟩
end Go.Proofs.Ytdjmaljldajpiaa
