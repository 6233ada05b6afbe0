/-
  WHAT IS PROVED HERE: the walk of the law InputqueueDeadline: it returns true at every input, and leaves old memory as it was. Conditions: the arguments' lengths are a machine's.
-/
import Derived.Test.YtdjmaljldajpiaaIqO
import Derived.Test.YtdjmaljldajpiaaStep
import Derived.Deep.DeepCutAuto
namespace Go.Proofs.Ytdjmaljldajpiaa
set_option linter.unusedVariables false
open Go.ChangeShapes Go.WideShapes Go.ChangeAt Go.RowKit
open Go.Maps (Keyed)

theorem maxI_left {a b : Int} (h : b ≤ a) : max a b = a := Int.max_eq_left h
theorem maxI_right {a b : Int} (h : a ≤ b) : max a b = b := Int.max_eq_right h
set_option maxRecDepth 100000 in
set_option maxHeartbeats 4000000 in
theorem deadline_walk (a c : Int) (A : Option Addr) (n0 c0 : Nat) (l : List Int) (w : World) (ha : I64 a) (hc : I64 c)
    (nc : n0 ≤ c0) (cm : c0 ≤ maxLen) (ln : l.length = n0) (rd : Rd w w.heap.size 1 A n0 (l.map (Value.int .i64))) (wf : ∀ x ∈ l, (Lit.int .i64 x).wf = true) :
    Calls Try.prog 5 #[.int .i64 a, .int .i64 c, .slice A n0 c0] w fun e w' => e = .returned (.bool true) ∧ Below w.heap.size w w' := by
  have RD := Lib.hid rd
  have H64 := Lib.hid (fun x hx => bounds_i64 (wf x hx))
  have hn : n0 ≤ 9223372036854775807 := by unfold maxLen at cm; omega
  have LN := Lib.hid ln
  obtain ⟨KK, hK, hK1, hK8⟩ := kay_nat a
  have HK := Lib.hid hK
  have hkb := around_bd a 8 (by omega)
  obtain ⟨W, hW, hW8⟩ := wait_nat c
  have HW := Lib.hid hW
  unfold I64 at ha hc
  obtain ⟨ha1, ha2⟩ := ha
  obtain ⟨hc1, hc2⟩ := hc
  obtain ⟨m, hm⟩ : ∃ m, min n0 40 = m := ⟨_, rfl⟩
  have hm40 : m ≤ 40 := by omega
  have HM := Lib.hid hm
  clear rd wf nc cm ln hK hW hm
  go_enter Try.func5, Try.ntmps5
  go_wp2_with fail
  refine (around_any a 8 _ ha1 ha2 (by omega) (by omega)).mono ?_
  rintro e w_ ⟨rfl, rfl⟩
  go_wp2_with fail
  refine (around_any c 9 _ hc1 hc2 (by omega) (by omega)).mono ?_
  rintro e w_ ⟨rfl, rfl⟩
  rw [HK.out, HW.out]
  go_wp2_with fail
  refine (new_q KK W _ hK1 hK8 hW8).mono ?_
  rintro e w1 ⟨p, b, rfl, hI1, hF1, hb1⟩
  have H1 := Lib.hid (And.intro hI1 hF1)
  clear hI1 hF1 hkb
  go_wp2_with fail
  refine (acts_any A n0 c0 l (KK : Int) _ (by omega) (by omega) LN.out (rd_step RD.out hb1) H64.out hn).mono ?_
  rintro e w2 ⟨A1, c1, rfl, o1, hb2⟩
  rw [HM.out] at o1 ⊢
  have RA := Lib.hid (OwnA.new H1.out.1 o1).rd
  have L2 := Lib.hid (show LQ w2 w2 p b none KK W 0 s0 from ⟨⟨0, Nat.le_refl _, H1.out.1.below hb2⟩, by decide, Mv.refl _ _ _ _⟩)
  have HB2 := Lib.hid (b_call hb1 hb2)
  have HF2 := Lib.hid (show ∀ j, Foot p b none j → w.heap.size ≤ j from H1.out.2)
  clear o1 hb1 hb2 H1 RD H64 LN HM HK HW
  go_wp2
  go_loopw [11] (fun s11 wr => ∃ (i : Nat) (g : Option Nat) (s : QS), i ≤ m ∧ s11 = .int .i64 i ∧ Hid (LQ w2 wr p b g KK W i s)) (fun i _ => m - (intOf i).toNat)
  case atStart => exact ⟨0, none, s0, by omega, rfl, L2⟩
  case round =>
    obtain ⟨i, g, s, hi, rfl, HL⟩ := hrel
    obtain ⟨wo, rfl⟩ : ∃ wo : World, wo = wr := ⟨_, rfl⟩
    by_cases hlt : i < m
    · have d1 : decide (i < m) = true := decide_eq_true hlt
      obtain ⟨b0, o0, rfl, hb0, c0', c1', c2', c3', c4', c5', c6'⟩ := (RA.out.mv HL.out.mv).openAct (i := i) hlt
      obtain ⟨d, now, pl, tk, x, y, z, hact, hd, ⟨hn1, hn2⟩, hp, ht⟩ := act_letters l (k := KK) (by omega) (by omega) (i := i) (by omega)
      rw [hact] at c0' c1' c2' c3' c4' c5' c6'
      clear hact
      have hlb := HL.out.len
      rcases hd with rfl | rfl
      · go_wp2_with fail
        refine (offer_q p b g KK W i s _ now pl tk x y z _ _ (HL.out.iqu.below (b_alloc (Below.refl _ _) _)) rfl rfl (i64_small (by omega) (by omega)) (i64_small (by omega) (by omega)) (i64_small (by omega) (by omega)) (by omega) hlb (by omega)).mono ?_
        rintro e w3 ⟨rfl, hI3, m3⟩
        have H3 := Lib.hid ((HL.out.below (b_alloc (Below.refl _ _) _)).next hI3 m3 (by rw [offS_rows]; exact hlb))
        clear hI3 m3
        go_wp2
        go_roundw
        case rel => exact ⟨i + 1, g, _, by omega, by go_num, H3⟩
        case measure => simp [intOf]; omega
      · go_wp2_with fail
        refine name_worldC ?_
        intro X hX
        have HX := Lib.hid (show LQ w2 X p b g KK W i s from by rw [hX]; exact HL.out.below (b_alloc (Below.refl _ _) _))
        have VX := Lib.hid (show Vr X wo.heap.size 36 #[.int .i64 1, .int .i64 now, .int .i64 pl, .int .i64 tk, .int .i64 x, .int .i64 y, .int .i64 z] from by rw [hX]; exact Vr.new wo _ _)
        have HFR := Lib.hid (show ¬ Foot p b g wo.heap.size from fun h => by have := HL.out.iqu.lt _ h; omega)
        clear hX c0' c1' c2' c3' c4' c5' c6'
        have x1 : X.cell? ⟨wo.heap.size, 1, none⟩ = some (.int .i64 now) := by rw [VX.out.cell]; rfl
        refine (next_any p b g KK W i s.1 s.2 _ HX.out.iqu).mono ?_
        rintro e w_ ⟨rfl, rfl⟩
        obtain ⟨n, hn0⟩ : ∃ n, s.2.length = n := ⟨_, rfl⟩
        rw [hn0] at hlb ⊢
        have HN0 := Lib.hid hn0
        obtain ⟨s', hs'⟩ : ∃ s', adv KK W now s = s' := ⟨_, rfl⟩
        obtain ⟨n4, hn4⟩ : ∃ n, s'.2.length = n := ⟨_, rfl⟩
        have hreach := adv_reach (k := KK) (wt := W) (now := now) s (by omega) (by omega)
        have hmono := adv_len (k := KK) (wt := W) (now := now) s (by omega)
        rw [hs', hn4] at hreach
        rw [hs', hn4, hn0] at hmono
        obtain ⟨hm1, hm2⟩ := hmono
        have HEARLY := Lib.hid (adv_early (k := KK) (wt := W) (now := now) s)
        rw [hs'] at HEARLY
        have HS' := Lib.hid hs'
        have HN4 := Lib.hid hn4
        clear hn0 hs' hn4
        go_wp2_with fail
        refine (advance_q p b g KK W i s _ now s' ((n4 : Int) - n) HX.out.iqu HS'.out (by rw [HN4.out, HN0.out]) (i64_small (by omega) (by omega)) (by omega) (by omega) (by rw [HN0.out]; exact hlb)).mono ?_
        rintro e w4 ⟨rfl, g4, hI4, m4⟩
        have H4 := Lib.hid (HX.out.same hI4 m4 (by rw [HN4.out]; exact hm2))
        have V4 := Lib.hid (show Vr w4 wo.heap.size 36 #[.int .i64 1, .int .i64 now, .int .i64 pl, .int .i64 tk, .int .i64 x, .int .i64 y, .int .i64 z] from VX.out.same (m4.away VX.out.lt HFR.out).1)
        have x4 : w4.cell? ⟨wo.heap.size, 1, none⟩ = some (.int .i64 now) := by rw [V4.out.cell]; rfl
        clear hI4 m4 x1 HX VX HFR
        have q1 : IntKind.i64.wrap (now - (W : Int)) = now - W := IntWalk.i64_in _ (by omega)
        have q2 : IntKind.i64.wrap (now - (W : Int) + 1) = now - W + 1 := IntWalk.i64_in _ (by omega)
        have d2 : decide ((n4 : Int) < now - W + 1) = false := decide_eq_false (by omega)
        have d3 : decide (n4 < n) = false := decide_eq_false (by omega)
        have d3' : decide ((n4 : Int) < (n : Int)) = false := decide_eq_false (by omega)
        go_wp2_with fail
        go_cut [74] from 61 to 74 (fun s74 wx => s74 = .bool false ∧ wx = w4.drew)
        case first =>
          refine wp_region_any (by kernel_rfl) ?_
          change wpAny _ _ _ _ _ _ _ (World.drew _)
          refine take_at (i := 0) (some 61) (v := ?vg2) rfl rfl (by kernel_rfl) (by kernel_rfl) (by kernel_rfl) (fun _ _ _ h => h) (Or.inl ⟨by rfl, ?hg2⟩) ?rg2
          case hg2 => (intro w0; go_simp; try with_reducible rfl)
          simp only [Act.put, List.setIfInBounds_toArray, List.set_cons_zero, List.set_cons_succ]
          refine take_at (i := 2) (some 63) (v := ?vg3) rfl rfl (by kernel_rfl) (by kernel_rfl) (by kernel_rfl) (fun _ _ _ h => h) (Or.inl ⟨by rfl, ?hg3⟩) ?rg3
          case hg3 => (intro w0; go_simp; try with_reducible rfl)
          simp only [Act.put, List.setIfInBounds_toArray, List.set_cons_zero, List.set_cons_succ]
          refine take_at (i := 4) (some 65) (v := ?vg4) rfl rfl (by kernel_rfl) (by kernel_rfl) (by kernel_rfl) (fun _ _ _ h => h) (Or.inl ⟨by rfl, ?hg4⟩) ?rg4
          case hg4 => (intro w0; go_simp; try with_reducible rfl)
          simp only [Act.put, List.setIfInBounds_toArray, List.set_cons_zero, List.set_cons_succ]
          refine wpAny_ready (rs := [1, 3]) (by kernel_rfl) (by simp) ?_
          refine AllReady.cons (o := _) rfl (fun K hK => ?_) (AllReady.cons (o := _) rfl (fun K hK => ?_) AllReady.nil)
          · go_simp
            refine (next_any p b g4 _ W i s'.1 s'.2 _ (H4.out.iqu.below (b_drew (Below.refl _ _)))).mono ?_
            rintro e w_ ⟨rfl, rfl⟩
            rw [HN4.out]
            refine hK _ _ ?_
            clear hK
            refine wpAny_ready (rs := [3]) (by kernel_rfl) (by simp) ?_
            refine AllReady.cons (o := _) rfl (fun K hK => ?_) AllReady.nil
            go_simp
            refine hK _ _ ?_
            clear hK K
            refine take_at (i := 5) (some 66) (v := ?vg6) rfl rfl (by kernel_rfl) (by kernel_rfl) (by kernel_rfl) (fun _ _ _ h => h) (Or.inl ⟨by rfl, ?hg6⟩) ?rg6
            case hg6 => (intro w0; go_simp; try with_reducible rfl)
            simp only [Act.put, List.setIfInBounds_toArray, List.set_cons_zero, List.set_cons_succ]
            refine take_at (i := 6) (some 67) (v := ?vg7) rfl rfl (by kernel_rfl) (by kernel_rfl) (by kernel_rfl) (fun _ _ _ h => h) (Or.inl ⟨by rfl, ?hg7⟩) ?rg7
            case hg7 => (intro w0; go_simp; try with_reducible rfl)
            simp only [Act.put, List.setIfInBounds_toArray, List.set_cons_zero, List.set_cons_succ]
            refine take_at (i := 7) (some 68) (v := ?vg8) rfl rfl (by kernel_rfl) (by kernel_rfl) (by kernel_rfl) (fun _ _ _ h => h) (Or.inl ⟨by rfl, ?hg8⟩) ?rg8
            case hg8 => (intro w0; go_simp; try with_reducible rfl)
            simp only [Act.put, List.setIfInBounds_toArray, List.set_cons_zero, List.set_cons_succ]
            refine take_at (i := 8) (some 69) (v := ?vg9) rfl rfl (by kernel_rfl) (by kernel_rfl) (by kernel_rfl) (fun _ _ _ h => h) (Or.inl ⟨by rfl, ?hg9⟩) ?rg9
            case hg9 => (intro w0; go_simp; try with_reducible rfl)
            simp only [Act.put, List.setIfInBounds_toArray, List.set_cons_zero, List.set_cons_succ]
            refine take_at (i := 9) (some 70) (v := ?vg10) rfl rfl (by kernel_rfl) (by kernel_rfl) (by kernel_rfl) (fun _ _ _ h => h) (Or.inl ⟨by rfl, ?hg10⟩) ?rg10
            case hg10 => (intro w0; go_simp; try with_reducible rfl)
            simp only [Act.put, List.setIfInBounds_toArray, List.set_cons_zero, List.set_cons_succ]
            refine take_at (i := 11) (some 72) (v := ?vg11) rfl rfl (by kernel_rfl) (by kernel_rfl) (by kernel_rfl) (fun _ _ _ h => h) (Or.inl ⟨by rfl, ?hg11⟩) ?rg11
            case hg11 => (intro w0; go_simp; try with_reducible rfl)
            simp only [Act.put, List.setIfInBounds_toArray, List.set_cons_zero, List.set_cons_succ]
            refine wpAny_ready (rs := [10]) (by kernel_rfl) (by simp) ?_
            refine AllReady.cons (o := _) rfl (fun K hK => ?_) AllReady.nil
            go_simp
            refine (next_any p b g4 _ W i s'.1 s'.2 _ (H4.out.iqu.below (b_drew (Below.refl _ _)))).mono ?_
            rintro e w_ ⟨rfl, rfl⟩
            rw [HN4.out]
            refine hK _ _ ?_
            clear hK
            refine take_at (i := 12) (some 73) (v := ?vg13) rfl rfl (by kernel_rfl) (by kernel_rfl) (by kernel_rfl) (fun _ _ _ h => h) (Or.inl ⟨by rfl, ?hg13⟩) ?rg13
            case hg13 => (intro w0; go_simp; try with_reducible rfl)
            simp only [Act.put, List.setIfInBounds_toArray, List.set_cons_zero, List.set_cons_succ]
            refine take_at (i := 13) (some 74) (v := ?vg14) rfl rfl (by kernel_rfl) (by kernel_rfl) (by kernel_rfl) (fun _ _ _ h => h) (Or.inl ⟨by rfl, ?hg14⟩) ?rg14
            case hg14 => (intro w0; go_simp; try with_reducible rfl)
            simp only [Act.put, List.setIfInBounds_toArray, List.set_cons_zero, List.set_cons_succ]
            refine wpAny_done (by kernel_rfl) ?_ _
            go_wp2
            go_meet
            case rel => exact ⟨rfl, rfl⟩
          · go_simp
            refine hK _ _ ?_
            clear hK K
            refine take_at (i := 5) (some 66) (v := ?vg19) rfl rfl (by kernel_rfl) (by kernel_rfl) (by kernel_rfl) (fun _ _ _ h => h) (Or.inl ⟨by rfl, ?hg19⟩) ?rg19
            case hg19 => (intro w0; go_simp; try with_reducible rfl)
            simp only [Act.put, List.setIfInBounds_toArray, List.set_cons_zero, List.set_cons_succ]
            refine take_at (i := 6) (some 67) (v := ?vg20) rfl rfl (by kernel_rfl) (by kernel_rfl) (by kernel_rfl) (fun _ _ _ h => h) (Or.inl ⟨by rfl, ?hg20⟩) ?rg20
            case hg20 => (intro w0; go_simp; try with_reducible rfl)
            simp only [Act.put, List.setIfInBounds_toArray, List.set_cons_zero, List.set_cons_succ]
            refine wpAny_ready (rs := [1]) (by kernel_rfl) (by simp) ?_
            refine AllReady.cons (o := _) rfl (fun K hK => ?_) AllReady.nil
            go_simp
            refine (next_any p b g4 _ W i s'.1 s'.2 _ (H4.out.iqu.below (b_drew (Below.refl _ _)))).mono ?_
            rintro e w_ ⟨rfl, rfl⟩
            rw [HN4.out]
            refine hK _ _ ?_
            clear hK
            refine take_at (i := 7) (some 68) (v := ?vg22) rfl rfl (by kernel_rfl) (by kernel_rfl) (by kernel_rfl) (fun _ _ _ h => h) (Or.inl ⟨by rfl, ?hg22⟩) ?rg22
            case hg22 => (intro w0; go_simp; try with_reducible rfl)
            simp only [Act.put, List.setIfInBounds_toArray, List.set_cons_zero, List.set_cons_succ]
            refine take_at (i := 8) (some 69) (v := ?vg23) rfl rfl (by kernel_rfl) (by kernel_rfl) (by kernel_rfl) (fun _ _ _ h => h) (Or.inl ⟨by rfl, ?hg23⟩) ?rg23
            case hg23 => (intro w0; go_simp; try with_reducible rfl)
            simp only [Act.put, List.setIfInBounds_toArray, List.set_cons_zero, List.set_cons_succ]
            refine take_at (i := 9) (some 70) (v := ?vg24) rfl rfl (by kernel_rfl) (by kernel_rfl) (by kernel_rfl) (fun _ _ _ h => h) (Or.inl ⟨by rfl, ?hg24⟩) ?rg24
            case hg24 => (intro w0; go_simp; try with_reducible rfl)
            simp only [Act.put, List.setIfInBounds_toArray, List.set_cons_zero, List.set_cons_succ]
            refine take_at (i := 11) (some 72) (v := ?vg25) rfl rfl (by kernel_rfl) (by kernel_rfl) (by kernel_rfl) (fun _ _ _ h => h) (Or.inl ⟨by rfl, ?hg25⟩) ?rg25
            case hg25 => (intro w0; go_simp; try with_reducible rfl)
            simp only [Act.put, List.setIfInBounds_toArray, List.set_cons_zero, List.set_cons_succ]
            refine wpAny_ready (rs := [10]) (by kernel_rfl) (by simp) ?_
            refine AllReady.cons (o := _) rfl (fun K hK => ?_) AllReady.nil
            go_simp
            refine (next_any p b g4 _ W i s'.1 s'.2 _ (H4.out.iqu.below (b_drew (Below.refl _ _)))).mono ?_
            rintro e w_ ⟨rfl, rfl⟩
            rw [HN4.out]
            refine hK _ _ ?_
            clear hK
            refine take_at (i := 12) (some 73) (v := ?vg27) rfl rfl (by kernel_rfl) (by kernel_rfl) (by kernel_rfl) (fun _ _ _ h => h) (Or.inl ⟨by rfl, ?hg27⟩) ?rg27
            case hg27 => (intro w0; go_simp; try with_reducible rfl)
            simp only [Act.put, List.setIfInBounds_toArray, List.set_cons_zero, List.set_cons_succ]
            refine take_at (i := 13) (some 74) (v := ?vg28) rfl rfl (by kernel_rfl) (by kernel_rfl) (by kernel_rfl) (fun _ _ _ h => h) (Or.inl ⟨by rfl, ?hg28⟩) ?rg28
            case hg28 => (intro w0; go_simp; try with_reducible rfl)
            simp only [Act.put, List.setIfInBounds_toArray, List.set_cons_zero, List.set_cons_succ]
            refine wpAny_done (by kernel_rfl) ?_ _
            go_wp2
            go_meet
            case rel => exact ⟨rfl, rfl⟩
        case rest =>
          obtain ⟨rfl, rfl⟩ := hcut
          have H5 := Lib.hid (H4.out.below (b_drew (Below.refl _ _)))
          have HI5 := Lib.hid H5.out.iqu
          obtain ⟨Y, hY⟩ : ∃ Y, w4.drew = Y := ⟨_, rfl⟩
          have x5 : Y.cell? ⟨wo.heap.size, 1, none⟩ = some (.int .i64 now) := by rw [← hY]; exact x4
          rw [hY] at H5 HI5 ⊢
          clear hY x4 H4 V4 q1 q2 d2 d3 d3'
          have hts : ∃ t0 : Nat, n ≤ t0 ∧ now - W + 1 ≤ t0 ∧ t0 ≤ n4 ∧ (((n : Int) ≤ now - W + 1 ∧ now - W + 1 = t0) ∨ (¬ (n : Int) ≤ now - W + 1 ∧ (n : Int) = t0)) := by
            by_cases hc : (n : Int) ≤ now - W + 1
            · exact ⟨(now - W + 1).toNat, by omega, by omega, by omega, .inl ⟨hc, by omega⟩⟩
            · exact ⟨n, by omega, by omega, by omega, .inr ⟨hc, rfl⟩⟩
          obtain ⟨t0, ht1, ht2, ht3, ht4⟩ := hts
          have HT4 := Lib.hid ht4
          clear ht4
          go_upto_region 17 with fail
          go_cut [14] from 75 to 81 (fun s14 wx => s14 = .int .i64 (t0 : Int) ∧ wx = Y)
          case first =>
            rcases HT4.out with ⟨h1, h2⟩ | ⟨h1, h2⟩
            · have H2 := Lib.hid h2
              clear h2
              go_wp2
              all_goals (go_meet; (case rel => exact ⟨ret_val (by have := H2.out; omega), rfl⟩))
            · have H2 := Lib.hid h2
              clear h2
              go_wp2
              all_goals (go_meet; (case rel => exact ⟨ret_val (by have := H2.out; omega), rfl⟩))
          case rest =>
            obtain ⟨rfl, hwc⟩ := hcut
            rw [hwc]
            clear hwc
            go_wp2
            go_loopw [14] (fun s14 wr2 => ∃ t : Nat, s14 = .int .i64 t ∧ n ≤ t ∧ now - W + 1 ≤ t ∧ t ≤ n4 ∧ Below Y.heap.size Y wr2) (fun i _ => n4 - (intOf i).toNat)
            case atStart => exact ⟨t0, rfl, ht1, ht2, ht3, Below.refl _ _⟩
            case round =>
              obtain ⟨t, rfl, hta, htb, htc, hBr⟩ := hrel
              go_wp2_with fail
              refine (next_any p b g4 _ W i s'.1 s'.2 _ (H5.out.iqu.below hBr)).mono ?_
              rintro e w_ ⟨rfl, rfl⟩
              rw [HN4.out]
              by_cases htl : t < n4
              · have d4 : decide (t < n4) = true := decide_eq_true htl
                obtain ⟨r, hr⟩ : ∃ r, s'.2[t]? = some r := ⟨_, List.getElem?_eq_getElem (by rw [HN4.out]; exact htl)⟩
                have HR := Lib.hid (And.intro hr (HEARLY.out t r hr (by rw [HN0.out]; omega) (by omega)))
                clear hr
                go_wp2_with fail
                refine (fixed_q p b g4 _ W i s' _ t r _ _ (H5.out.iqu.below hBr) HR.out.1 rfl HR.out.2 hK8 (by rw [HN4.out]; omega)).mono ?_
                rintro e w7 ⟨A3, c3, A4, c4, rfl, o3, o4, hb7⟩
                have R4 := Lib.hid (rd_own o4)
                have hB7 := b_call hBr hb7
                clear o3 o4 hb7
                go_wp2
                go_loop [18] (fun s18 => ∃ j : Nat, j ≤ KK ∧ s18 = .int .i64 j) (fun i => KK - (intOf i).toNat)
                case atStart => exact ⟨0, by omega, rfl⟩
                case round =>
                  obtain ⟨j, hj, rfl⟩ := hrel
                  by_cases hjl : j < KK
                  · obtain ⟨b4, o4, hl4, rfl, hb4, hc4⟩ := R4.out.openMap (k := j) hjl
                    rw [List.getElem_replicate] at hc4
                    have d5 : decide (j < KK) = true := decide_eq_true hjl
                    go_wp2
                    go_round
                    case rel => exact ⟨j + 1, by omega, by go_num⟩
                    case measure => simp [intOf]; omega
                  · have d5 : decide (j < KK) = false := decide_eq_false hjl
                    go_wp2
                    go_roundw
                    case rel => exact ⟨t + 1, by go_num, by omega, by omega, by omega, hB7⟩
                    case measure => simp [intOf]; omega
              · have d4 : decide (t < n4) = false := decide_eq_false htl
                go_wp2
                go_roundw
                case rel => exact ⟨i + 1, g4, s', by omega, by go_num, Lib.hid ((H5.out.below hBr).up (by omega))⟩
                case measure => simp [intOf]; omega
    · obtain rfl : i = m := by omega
      have d1 : decide (i < i) = false := by simp
      have HB := Lib.hid ((HL.out.mv.belowB HB2.out.size HF2.out).1)
      go_wp2_with fail
      refine (lives_any _).mono ?_
      rintro e w9 ⟨rfl, hb9⟩
      go_wp2
      go_ret
      exact ⟨rfl, b_call (HB2.out.trans HB.out) hb9⟩
end Go.Proofs.Ytdjmaljldajpiaa
