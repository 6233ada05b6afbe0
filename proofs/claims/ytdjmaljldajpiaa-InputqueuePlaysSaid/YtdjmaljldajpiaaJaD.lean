/-
  WHAT IS PROVED HERE: the walk of the law InputqueuePlays: it returns true at every input, and leaves old memory as it was. Conditions: the arguments' lengths are a machine's.
-/
import Derived.Test.YtdjmaljldajpiaaJaC
import Derived.Test.YtdjmaljldajpiaaIqM
import Derived.Test.YtdjmaljldajpiaaAny2
namespace Go.Proofs.Ytdjmaljldajpiaa
set_option linter.unusedVariables false
open Go.ChangeShapes Go.WideShapes Go.ChangeAt Go.RowKit

set_option maxRecDepth 100000 in
set_option maxHeartbeats 20000000 in
theorem plays_walk (a c : Int) (A : Option Addr) (n0 c0 : Nat) (l : List Int) (w0 : World) (ha : I64 a) (hc : I64 c)
    (nc : n0 ≤ c0) (cm : c0 ≤ maxLen) (ln : l.length = n0) (rd : Rd w0 w0.heap.size 1 A n0 (l.map (Value.int .i64))) (wf : ∀ x ∈ l, (Lit.int .i64 x).wf = true) :
    Calls Try.prog 3 #[.int .i64 a, .int .i64 c, .slice A n0 c0] w0 fun e w' => e = .returned (.bool true) ∧ Below w0.heap.size w0 w' := by
  have RD := Lib.hid rd
  have H64 := Lib.hid (fun x hx => bounds_i64 (wf x hx))
  have hn : n0 ≤ 9223372036854775807 := by unfold maxLen at cm; omega
  have LN := Lib.hid ln
  obtain ⟨KK, hK, hK1, hK8⟩ := kay_nat a
  have HK := Lib.hid hK
  have hkb := around_bd a 8 (by omega)
  obtain ⟨W, hW, hW8⟩ := wait_nat c
  have HW := Lib.hid hW
  unfold I64 at ha hc
  obtain ⟨ha1, ha2⟩ := ha
  obtain ⟨hc1, hc2⟩ := hc
  obtain ⟨m, hm⟩ : ∃ m, min n0 40 = m := ⟨_, rfl⟩
  have hm40 : m ≤ 40 := by omega
  have HM := Lib.hid hm
  clear rd wf nc cm ln hK hW hm
  go_enter Try.func3, Try.ntmps3
  go_wp2_with fail
  refine (around_any a 8 _ ha1 ha2 (by omega) (by omega)).mono ?_
  rintro e w_ ⟨rfl, rfl⟩
  go_wp2_with fail
  refine (around_any c 9 _ hc1 hc2 (by omega) (by omega)).mono ?_
  rintro e w_ ⟨rfl, rfl⟩
  rw [HK.out, HW.out]
  go_wp2_with fail
  refine (new_q KK W _ hK1 hK8 hW8).mono ?_
  rintro e w1 ⟨p, b, rfl, hI1, hF1, hb1⟩
  have H1 := Lib.hid (And.intro hI1 hF1)
  have HB1 := Lib.hid hb1
  clear hI1 hF1 hkb hb1
  go_upto_region 7 with (fail)
  refine name_world ?_
  intro X hX
  obtain ⟨bq, hbq⟩ : ∃ x, w1.heap.size = x := ⟨_, rfl⟩
  have VX := Lib.hid (show Vr X bq 30 #[.int .i64 KK, .int .i64 W, .slice none 0 0, .slice none 0 0, .slice none 0 0] from by rw [hX, ← hbq]; exact Vr.new w1 _ _)
  have BX := Lib.hid (show Below w1.heap.size w1 X from by rw [hX]; (repeat (first | (with_reducible exact Below.refl _ _) | (with_reducible assumption) | (with_reducible refine b_drew ?_) | (with_reducible refine b_drewN ?_ _) | (with_reducible refine b_alloc ?_ _) | ((with_reducible refine b_set ?_ ?_ _); rotate_left; (focus (first | omega | (simp; done) | (simp; omega) | (simp at *; omega)))) | (with_reducible refine b_call ?_ (by with_reducible assumption)))))
  have HBQ := Lib.hid hbq
  rw [hbq]
  clear hX hbq
  go_wp2_with fail
  refine (acts_any A n0 c0 l (KK : Int) _ (by omega) (by omega) LN.out (rd_step (rd_step RD.out HB1.out) BX.out) H64.out hn).mono ?_
  rintro e w2 ⟨A1, c1, rfl, o1, hb2⟩
  rw [HM.out] at o1 ⊢
  have HP := Lib.hid (show PL w0 w2 p b none KK W 0 bq m A1 l none 0 none 0 none 0 [] s0 from by
    have hbq := HBQ.out
    have hF := H1.out.2
    have hv := VX.out.lt
    have hI := H1.out.1.below BX.out
    refine ⟨hI.below hb2, by decide, VX.out.call hb2, ⟨RdF.nil _ _ _, RowsF.nil _ _ _ _, RowsF.nil _ _ _ _⟩, RdF.of_own o1 (fun j hj => ?_), fun h => ?_, lpv_new, by simp, hF, ?_, b_call (b_call HB1.out BX.out) hb2⟩
    · rcases hj with h | h
      · exact hI.lt j h
      · omega
    · have := H1.out.1.lt _ h
      omega
    · have := HB1.out.size
      omega)
  clear o1 hb2 H1 RD H64 LN HM HK HW VX BX HBQ HB1
  go_wp2
  go_loopw [12] (fun s12 wr => ∃ (i : Nat) (g : Option Nat) (AL : Option Addr) (cL : Nat) (AR : Option Addr) (cR : Nat) (AM : Option Addr) (cM : Nat) (Lq : List OneV) (s : QS), i ≤ m ∧ s12 = .int .i64 i ∧ Hid (PL w0 wr p b g KK W i bq m A1 l AL cL AR cR AM cM Lq s)) (fun i _ => m - (intOf i).toNat)
  case atStart => exact ⟨0, none, none, 0, none, 0, none, 0, [], s0, by omega, rfl, HP⟩
  case round =>
    clear HP
    obtain ⟨i, g, AL, cL, AR, cR, AM, cM, Lq, s, hi, rfl, HP⟩ := hrel
    obtain ⟨wo, rfl⟩ : ∃ wo : World, wo = wr := ⟨_, rfl⟩
    by_cases hlt : i < m
    · have d1 : decide ((i : Int) < (m : Int)) = true := by simp; omega
      have d1' : decide (i < m) = true := decide_eq_true hlt
      obtain ⟨b0, o0, rfl, hb0, c0', c1', c2', c3', c4', c5', c6'⟩ := (show RdA wo p b g 7 A1 m (actsC l KK m) from HP.out.a.weak (fun j _ h => .inl h)).openAct (i := i) hlt
      obtain ⟨d, now, pl, tk, x, y, z, hact, hd, ⟨hn1, hn2⟩, ⟨hp1, hp2⟩, ⟨ht1, ht2⟩⟩ := act_letters l (k := KK) (by omega) (by omega) (i := i) (by omega)
      rw [hact] at c0' c1' c2' c3' c4' c5' c6'
      clear hact
      go_upto_region 12 with (fail)
      refine name_world ?_
      intro X hX
      obtain ⟨bx, hbx⟩ : ∃ b, wo.heap.size = b := ⟨_, rfl⟩
      have VX := Lib.hid (show Vr X bx 36 #[.int .i64 d, .int .i64 now, .int .i64 pl, .int .i64 tk, .int .i64 x, .int .i64 y, .int .i64 z] from by rw [hX, ← hbx]; exact Vr.new wo _ _)
      have HX := Lib.hid (HP.out.call (show Below wo.heap.size wo X from by rw [hX]; (repeat (first | (with_reducible exact Below.refl _ _) | (with_reducible assumption) | (with_reducible refine b_drew ?_) | (with_reducible refine b_drewN ?_ _) | (with_reducible refine b_alloc ?_ _) | ((with_reducible refine b_set ?_ ?_ _); rotate_left; (focus (first | omega | (simp; done) | (simp; omega) | (simp at *; omega)))) | (with_reducible refine b_call ?_ (by with_reducible assumption))))))
      have HFx := Lib.hid (show ¬ FB p b g bq bx from fun h => by have := HP.out.lt _ h; omega)
      rw [hbx]
      clear hX hbx c0' c1' c2' c3' c4' c5' c6' HP
      have a0 : X.cell? ⟨bx, 0, none⟩ = some (.int .i64 d) := VX.out.cell 0
      have a1 : X.cell? ⟨bx, 1, none⟩ = some (.int .i64 now) := VX.out.cell 1
      go_upto_if 46 with (fail)
      go_cut [14, 15, 16] from 46 to 89 (fun s14 s15 s16 wx => ∃ (g : Option Nat) (AL : Option Addr) (cL : Nat) (AR : Option Addr) (cR : Nat) (AM : Option Addr) (cM : Nat) (Lq : List OneV) (s : QS), Hid (PL w0 wx p b g KK W (i + 1) bq m (some ⟨b0, o0, none⟩) l AL cL AR cR AM cM Lq s))
      case first =>
        obtain ⟨nL, hnL⟩ : ∃ n, Lq.length = n := ⟨_, rfl⟩
        obtain ⟨n, hn⟩ : ∃ n, s.2.length = n := ⟨_, rfl⟩
        have HNL := Lib.hid hnL
        have HN := Lib.hid hn
        have hnL40 : nL ≤ 40 := by have := HX.out.ln; omega
        have hn6 : n ≤ 6000 := by have := HX.out.len; omega
        have VQ := Lib.hid (show Vr X bq 30 #[.int .i64 KK, .int .i64 W, .slice AL nL cL, .slice AR n cR, .slice AM n cM] from by rw [← hnL, ← hn]; exact HX.out.v)
        have y0 : X.cell? ⟨bq, 0, none⟩ = some (.int .i64 KK) := VQ.out.cell 0
        have y1 : X.cell? ⟨bq, 1, none⟩ = some (.int .i64 W) := VQ.out.cell 1
        have y2 : X.cell? ⟨bq, 2, none⟩ = some (.slice AL nL cL) := VQ.out.cell 2
        have y3 : X.cell? ⟨bq, 3, none⟩ = some (.slice AR n cR) := VQ.out.cell 3
        have y4 : X.cell? ⟨bq, 4, none⟩ = some (.slice AM n cM) := VQ.out.cell 4
        have hbxl := VX.out.lt
        have hbql := VQ.out.lt
        clear hnL hn
        rcases hd with rfl | rfl
        · obtain ⟨E, hE⟩ : ∃ E, refE KK n Lq now pl tk (x, y, z) = E := ⟨_, rfl⟩
          obtain ⟨Lq', hL'⟩ : ∃ Lq', refL KK n Lq now pl tk (x, y, z) = Lq' := ⟨_, rfl⟩
          obtain ⟨s', hs'⟩ : ∃ s', offS KK now pl tk (x, y, z) s = s' := ⟨_, rfl⟩
          have HE2 := Lib.hid (show offerE KK s.2.length s.1 now pl tk (x, y, z) = E from by rw [← lpv_E HX.out.lp, HN.out]; exact hE)
          have HLP := Lib.hid (show LPV s'.2.length s'.1 Lq' from by have := lpv_off HX.out.lp KK now pl tk (x, y, z); rw [HN.out, hL', hs'] at this; exact this)
          have HS2 := Lib.hid (show s'.2 = s.2 from by rw [← hs']; exact offS_rows _ _ _ _ _ _)
          have HLL := Lib.hid (show Lq'.length ≤ i + 1 from by
            have := HX.out.ln
            rw [← hL']
            unfold refL
            split
            · simp; omega
            · omega)
          have HQ := refoffer_F (FB p b g bq) KK W AL cL AR n cR AM n cM Lq now pl tk x y z X HX.out.r.l HX.out.lt (by rw [HNL.out]; omega) (by omega) E Lq' hE hL'
          rw [HNL.out] at HQ
          have HQh := Lib.hid HQ
          have HS' := Lib.hid hs'
          have a2 : X.cell? ⟨bx, 2, none⟩ = some (.int .i64 pl) := VX.out.cell 2
          have a3 : X.cell? ⟨bx, 3, none⟩ = some (.int .i64 tk) := VX.out.cell 3
          have a4 : X.cell? ⟨bx, 4, none⟩ = some (.int .i64 x) := VX.out.cell 4
          have a5 : X.cell? ⟨bx, 5, none⟩ = some (.int .i64 y) := VX.out.cell 5
          have a6 : X.cell? ⟨bx, 6, none⟩ = some (.int .i64 z) := VX.out.cell 6
          clear hE hL' hs' HQ
          go_wp2_with fail
          refine HQh.out.mono ?_
          rintro e w4 ⟨A4, c4, rfl, rd4, hb4⟩
          have R4 := Lib.hid rd4
          have B4 := Lib.hid hb4
          clear rd4 hb4 HQh y0 y1 y2 y3 y4 a0 a1 a2 a3 a4 a5 a6
          go_upto_region 18 with (fail)
          refine name_world ?_
          intro Y hY
          obtain ⟨b15, hb15⟩ : ∃ b, w4.heap.size = b := ⟨_, rfl⟩
          have VY := Lib.hid (show Vr Y b15 30 #[.int .i64 KK, .int .i64 W, .slice A4 Lq'.length c4, .slice AR n cR, .slice AM n cM] from by rw [hY, ← hb15]; exact Vr.new w4 _ _)
          have B4Y := Lib.hid (show Below w4.heap.size w4 Y from by rw [hY]; (repeat (first | (with_reducible exact Below.refl _ _) | (with_reducible assumption) | (with_reducible refine b_drew ?_) | (with_reducible refine b_drewN ?_ _) | (with_reducible refine b_alloc ?_ _) | ((with_reducible refine b_set ?_ ?_ _); rotate_left; (focus (first | omega | (simp; done) | (simp; omega) | (simp at *; omega)))) | (with_reducible refine b_call ?_ (by with_reducible assumption)))))
          have BY := Lib.hid (b_call B4.out B4Y.out)
          have VA := VX.out.call BY.out
          have a1 : Y.cell? ⟨bx, 1, none⟩ = some (.int .i64 now) := VA.cell 1
          have a2 : Y.cell? ⟨bx, 2, none⟩ = some (.int .i64 pl) := VA.cell 2
          have a3 : Y.cell? ⟨bx, 3, none⟩ = some (.int .i64 tk) := VA.cell 3
          have a4 : Y.cell? ⟨bx, 4, none⟩ = some (.int .i64 x) := VA.cell 4
          have a5 : Y.cell? ⟨bx, 5, none⟩ = some (.int .i64 y) := VA.cell 5
          have a6 : Y.cell? ⟨bx, 6, none⟩ = some (.int .i64 z) := VA.cell 6
          have hf15 : ¬ Foot p b g b15 := fun h => by have := HX.out.q.lt _ h; have := B4.out.size; omega
          rw [hb15]
          clear hY hb15 VA
          go_wp2_with fail
          refine (offer_q p b g KK W i s Y now pl tk x y z s' E (HX.out.q.below BY.out) HS'.out HE2.out (i64_small (by omega) (by omega)) (i64_small (by omega) (by omega)) (i64_small (by omega) (by omega)) hK8 (by rw [HN.out]; omega) (by omega)).mono ?_
          rintro e w5 ⟨rfl, hI5, m5⟩
          have V5 := VY.out.only m5.2 hf15
          have V5q := Lib.hid ((VQ.out.call BY.out).only m5.2 HX.out.f)
          have I5 := Lib.hid hI5
          have M5 := Lib.hid m5
          have u0 : w5.cell? ⟨b15, 0, none⟩ = some (.int .i64 KK) := V5.cell 0
          have u1 : w5.cell? ⟨b15, 1, none⟩ = some (.int .i64 W) := V5.cell 1
          have u2 : w5.cell? ⟨b15, 2, none⟩ = some (.slice A4 Lq'.length c4) := V5.cell 2
          have u3 : w5.cell? ⟨b15, 3, none⟩ = some (.slice AR n cR) := V5.cell 3
          have u4 : w5.cell? ⟨b15, 4, none⟩ = some (.slice AM n cM) := V5.cell 4
          obtain ⟨v1, v2, v3⟩ := V5q.out.facts
          have qE : (E != E) = false := bne_self_eq_false E
          have HR5 := Lib.hid (show RQ Y (FB p b g bq) KK A4 Lq' AR AM s'.2 from by
            rw [HS2.out]
            have h := HX.out.r.call BY.out
            exact ⟨R4.out.call B4Y.out, h.r, h.m⟩)
          clear hI5 m5 V5 a1 a2 a3 a4 a5 a6 hf15 R4
          go_wp2
          go_meet
          case rel => exact ⟨g, A4, c4, AR, cR, AM, cM, Lq', s', Lib.hid (PL.next HX.out BY.out HR5.out I5.out M5.out (Below.refl _ _) (oq_set (oq_set (oq_set (oq_set (oq_set (Only.refl _ _) _ _) _ _) _ _) _ _) _ _) (by rw [HS2.out, HN.out]; exact vr_set5 V5q.out _ _ _ _ _) (by rw [HS2.out, HN.out]; exact hn6) HLP.out HLL.out)⟩
        · obtain ⟨s', hs'⟩ : ∃ s', adv KK W now s = s' := ⟨_, rfl⟩
          obtain ⟨n4, hn4⟩ : ∃ n, s'.2.length = n := ⟨_, rfl⟩
          have hal := adv_len (k := KK) (wt := W) (now := now) s (by rw [HN.out]; exact hn6)
          rw [hs', hn4, HN.out] at hal
          obtain ⟨hal1, hal2⟩ := hal
          obtain ⟨v, hv⟩ : ∃ v : Int, (n4 : Int) - (n : Int) = v := ⟨_, rfl⟩
          have HADV := Lib.hid (fun (Z : World) (h : Iqu Z p b g KK W i s.1 s.2) => advance_q p b g KK W i s Z now s' v h hs' (by rw [hn4, HN.out]; exact hv) (i64_small (by omega) (by omega)) hK8 hW8 (by rw [HN.out]; exact hn6))
          have HLP := Lib.hid (show LPV s'.2.length s'.1 Lq from by
            rw [← hs']
            exact adv_induct (R := fun u => LPV u.2.length u.1 Lq) (fun u hu _ _ => lpv_step hu) s HX.out.lp)
          have HQ := refadv_any (FB p b g bq) KK W AL cL AR cR AM cM Lq now s s' X HX.out.r HX.out.lt hs' HX.out.lp ⟨by omega, by omega⟩ hK8 hW8 (by rw [HN.out]; exact hn6) (by rw [HNL.out]; omega)
          rw [HN.out] at HQ
          have HQh := Lib.hid (show Calls Try.prog 13 #[.agg #[.int .i64 KK, .int .i64 W, .slice AL nL cL, .slice AR n cR, .slice AM n cM], .int .i64 now] X (RetAdvR X (FB p b g bq) KK W AL cL Lq s'.2) from by rw [← HNL.out]; exact HQ)
          have HN4 := Lib.hid hn4
          have ev : IntKind.i64.wrap ((n4 : Int) - (n : Int)) = v := by rw [hv]; exact IntWalk.i64_in _ (by omega)
          have HV := Lib.hid hv
          clear hs' hn4 hv HQ
          go_wp2_with fail
          refine HQh.out.mono ?_
          rintro e w4 ⟨AR4, cR4, AM4, cM4, rfl, rq4, hb4⟩
          have R4 := Lib.hid rq4
          have B4 := Lib.hid hb4
          rw [HNL.out, HN4.out]
          clear rq4 hb4 HQh y0 y1 y2 y3 y4 a0 a1
          go_upto_region 14 with (fail)
          refine name_world ?_
          intro Y hY
          obtain ⟨b14, hb14⟩ : ∃ b, w4.heap.size = b := ⟨_, rfl⟩
          have VY := Lib.hid (show Vr Y b14 30 #[.int .i64 KK, .int .i64 W, .slice AL nL cL, .slice AR4 n4 cR4, .slice AM4 n4 cM4] from by rw [hY, ← hb14]; exact Vr.new w4 _ _)
          have B4Y := Lib.hid (show Below w4.heap.size w4 Y from by rw [hY]; (repeat (first | (with_reducible exact Below.refl _ _) | (with_reducible assumption) | (with_reducible refine b_drew ?_) | (with_reducible refine b_drewN ?_ _) | (with_reducible refine b_alloc ?_ _) | ((with_reducible refine b_set ?_ ?_ _); rotate_left; (focus (first | omega | (simp; done) | (simp; omega) | (simp at *; omega)))) | (with_reducible refine b_call ?_ (by with_reducible assumption)))))
          have BY := Lib.hid (b_call B4.out B4Y.out)
          have VA := Lib.hid (VX.out.call BY.out)
          have VQY := Lib.hid (VQ.out.call BY.out)
          have a1 : Y.cell? ⟨bx, 1, none⟩ = some (.int .i64 now) := VA.out.cell 1
          have y3 : Y.cell? ⟨bq, 3, none⟩ = some (.slice AR n cR) := VQY.out.cell 3
          have x3 : Y.cell? ⟨b14, 3, none⟩ = some (.slice AR4 n4 cR4) := VY.out.cell 3
          have hf14 : ¬ Foot p b g b14 := fun h => by have := HX.out.q.lt _ h; have := B4.out.size; omega
          have hfx : ¬ Foot p b g bx := fun h => HFx.out (.inl h)
          have hfq : ¬ Foot p b g bq := HX.out.f
          have HR5 := Lib.hid (R4.out.call B4Y.out)
          have I0 := Lib.hid (HX.out.q.below BY.out)
          rw [hb14]
          clear hY hb14 R4 VA
          refine wp_region_any (by kernel_rfl) ?_
          change wpAny _ _ _ _ _ _ _ (World.drew _)
          refine wpAny_go (fun A0 L aa w => ∃ (v51 v52 v53 v54 v55 v56 v57 v58 v59 v60 v61 v62 : Value) (g5 : Option Nat), aa = fr A0 [(51, v51), (52, v52), (53, v53), (54, v54), (55, v55), (56, v56), (57, v57), (58, v58), (59, v59), (60, v60), (61, v61), (62, v62)] ∧ (Only (Foot p b g) Y w) ∧ (Hid ((L 3 = false → Iqu w p b g KK W i s.1 s.2) ∧ (L 3 = true → Iqu w p b g5 KK W i s'.1 s'.2 ∧ (g5 = g ∨ ∃ j, g5 = some j ∧ Y.heap.size ≤ j)))) ∧ Hid (L 0 = true → v51 = Value.pointer (some ⟨p, 0, none⟩)) ∧ Hid (L 1 = true → v52 = Value.pointer (some ⟨bx, 1, none⟩)) ∧ Hid (L 2 = true → v53 = Value.int .i64 now) ∧ Hid (L 3 = true → v54 = Value.int .i64 v) ∧ Hid (L 4 = true → v55 = Value.pointer (some ⟨b14, 3, none⟩)) ∧ Hid (L 5 = true → v56 = Value.slice AR4 n4 cR4) ∧ Hid (L 6 = true → v57 = Value.int .i64 n4) ∧ Hid (L 7 = true → v58 = Value.pointer (some ⟨bq, 3, none⟩)) ∧ Hid (L 8 = true → v59 = Value.slice AR n cR) ∧ Hid (L 9 = true → v60 = Value.int .i64 n) ∧ Hid (L 10 = true → v61 = Value.int .i64 v) ∧ Hid (L 11 = true → v62 = Value.bool false)) [0, 1, 2, 3, 4, 5, 6, 7, 8, 9, 10, 11] (by kernel_rfl) (by kernel_rfl) ?a1I ?a1S ?a1D
          case a1I =>
            refine ⟨?a1v51, ?a1v52, ?a1v53, ?a1v54, ?a1v55, ?a1v56, ?a1v57, ?a1v58, ?a1v59, ?a1v60, ?a1v61, ?a1v62, none, ?a1fr, (Only.refl _ _).drew, Lib.hid ⟨fun _ => I0.out.below (b_drew (Below.refl _ _)), no_yet (by kernel_rfl)⟩, Lib.hid (no_yet (by kernel_rfl)), Lib.hid (no_yet (by kernel_rfl)), Lib.hid (no_yet (by kernel_rfl)), Lib.hid (no_yet (by kernel_rfl)), Lib.hid (no_yet (by kernel_rfl)), Lib.hid (no_yet (by kernel_rfl)), Lib.hid (no_yet (by kernel_rfl)), Lib.hid (no_yet (by kernel_rfl)), Lib.hid (no_yet (by kernel_rfl)), Lib.hid (no_yet (by kernel_rfl)), Lib.hid (no_yet (by kernel_rfl)), Lib.hid (no_yet (by kernel_rfl))⟩
            case a1fr => (simp only [fr, List.foldl_cons, List.foldl_nil, Act.put, List.setIfInBounds_toArray, List.set_cons_zero, List.set_cons_succ]; rfl)
          case a1S =>
            refine Steps.plain (i := 0) (o := ?a1o0) [] ?a1h0 ?a1g0 ?a1d0 ?a1s0 ?a1r0
            case a1h0 => (simp only [List.getElem?_toArray, List.getElem?_cons_zero]; rfl)
            case a1g0 => rfl
            case a1d0 => kernel_rfl
            case a1s0 =>
              rintro L aa w h0 _ ⟨v51, v52, v53, v54, v55, v56, v57, v58, v59, v60, v61, v62, g5, rfl, hO, hI, hF⟩ K hK
              simp only [fr, List.foldl_cons, List.foldl_nil, Act.put, List.setIfInBounds_toArray, List.set_cons_zero, List.set_cons_succ]
              go_simp
              exact hK _ _ ⟨(Value.pointer (some ⟨p, 0, none⟩)), v52, v53, v54, v55, v56, v57, v58, v59, v60, v61, v62, g5, (by (simp only [fr, List.foldl_cons, List.foldl_nil, Act.put, List.setIfInBounds_toArray, List.set_cons_zero, List.set_cons_succ]); try rfl), hO, hI, Lib.hid (fun _ => rfl), hF.2.1, hF.2.2.1, hF.2.2.2.1, hF.2.2.2.2.1, hF.2.2.2.2.2.1, hF.2.2.2.2.2.2.1, hF.2.2.2.2.2.2.2.1, hF.2.2.2.2.2.2.2.2.1, hF.2.2.2.2.2.2.2.2.2.1, hF.2.2.2.2.2.2.2.2.2.2.1, hF.2.2.2.2.2.2.2.2.2.2.2⟩
            refine Steps.plain (i := 1) (o := ?a1o1) [] ?a1h1 ?a1g1 ?a1d1 ?a1s1 ?a1r1
            case a1h1 => (simp only [List.getElem?_toArray, List.getElem?_cons_succ, List.getElem?_cons_zero]; rfl)
            case a1g1 => rfl
            case a1d1 => kernel_rfl
            case a1s1 =>
              rintro L aa w h0 _ ⟨v51, v52, v53, v54, v55, v56, v57, v58, v59, v60, v61, v62, g5, rfl, hO, hI, hF⟩ K hK
              simp only [fr, List.foldl_cons, List.foldl_nil, Act.put, List.setIfInBounds_toArray, List.set_cons_zero, List.set_cons_succ]
              go_simp
              exact hK _ _ ⟨v51, (Value.pointer (some ⟨bx, 1, none⟩)), v53, v54, v55, v56, v57, v58, v59, v60, v61, v62, g5, (by (simp only [fr, List.foldl_cons, List.foldl_nil, Act.put, List.setIfInBounds_toArray, List.set_cons_zero, List.set_cons_succ]); try rfl), hO, hI, hF.1, Lib.hid (fun _ => rfl), hF.2.2.1, hF.2.2.2.1, hF.2.2.2.2.1, hF.2.2.2.2.2.1, hF.2.2.2.2.2.2.1, hF.2.2.2.2.2.2.2.1, hF.2.2.2.2.2.2.2.2.1, hF.2.2.2.2.2.2.2.2.2.1, hF.2.2.2.2.2.2.2.2.2.2.1, hF.2.2.2.2.2.2.2.2.2.2.2⟩
            refine Steps.plain (i := 2) (o := ?a1o2) [1] ?a1h2 ?a1g2 ?a1d2 ?a1s2 ?a1r2
            case a1h2 => (simp only [List.getElem?_toArray, List.getElem?_cons_succ, List.getElem?_cons_zero]; rfl)
            case a1g2 => rfl
            case a1d2 => kernel_rfl
            case a1s2 =>
              rintro L aa w h0 ⟨e1, _⟩ ⟨v51, v52, v53, v54, v55, v56, v57, v58, v59, v60, v61, v62, g5, rfl, hO, hI, hF⟩ K hK
              obtain rfl := (hF.2.1).out e1
              simp only [fr, List.foldl_cons, List.foldl_nil, Act.put, List.setIfInBounds_toArray, List.set_cons_zero, List.set_cons_succ]
              have x0 := only_cellF hO a1 hfx
              go_simp
              exact hK _ _ ⟨v51, (Value.pointer (some ⟨bx, 1, none⟩)), (Value.int .i64 now), v54, v55, v56, v57, v58, v59, v60, v61, v62, g5, (by (simp only [fr, List.foldl_cons, List.foldl_nil, Act.put, List.setIfInBounds_toArray, List.set_cons_zero, List.set_cons_succ]); try rfl), hO, hI, hF.1, hF.2.1, Lib.hid (fun _ => rfl), hF.2.2.2.1, hF.2.2.2.2.1, hF.2.2.2.2.2.1, hF.2.2.2.2.2.2.1, hF.2.2.2.2.2.2.2.1, hF.2.2.2.2.2.2.2.2.1, hF.2.2.2.2.2.2.2.2.2.1, hF.2.2.2.2.2.2.2.2.2.2.1, hF.2.2.2.2.2.2.2.2.2.2.2⟩
            refine Steps.plain (i := 3) (o := ?a1o3) [0, 2] ?a1h3 ?a1g3 ?a1d3 ?a1s3 ?a1r3
            case a1h3 => (simp only [List.getElem?_toArray, List.getElem?_cons_succ, List.getElem?_cons_zero]; rfl)
            case a1g3 => rfl
            case a1d3 => kernel_rfl
            case a1s3 =>
              rintro L aa w h0 ⟨e0, e2, _⟩ ⟨v51, v52, v53, v54, v55, v56, v57, v58, v59, v60, v61, v62, g5, rfl, hO, hI, hF⟩ K hK
              obtain rfl := (hF.1).out e0
              obtain rfl := (hF.2.2.1).out e2
              simp only [fr, List.foldl_cons, List.foldl_nil, Act.put, List.setIfInBounds_toArray, List.set_cons_zero, List.set_cons_succ]
              have hi0 := hI.out.1 h0
              go_simp
              refine (HADV.out w hi0).mono ?_
              rintro e w5 ⟨rfl, g6, hI6, m6⟩
              exact hK _ _ ⟨(Value.pointer (some ⟨p, 0, none⟩)), v52, (Value.int .i64 now), (Value.int .i64 v), v55, v56, v57, v58, v59, v60, v61, v62, g6, (by (simp only [fr, List.foldl_cons, List.foldl_nil, Act.put, List.setIfInBounds_toArray, List.set_cons_zero, List.set_cons_succ]); try rfl), hO.trans m6.2, Lib.hid ⟨(fun h => by cases h), fun _ => ⟨hI6, m6.1.imp id (fun ⟨j, h1, h2⟩ => ⟨j, h1, Nat.le_trans hO.size h2⟩)⟩⟩, hF.1, hF.2.1, hF.2.2.1, Lib.hid (fun _ => rfl), hF.2.2.2.2.1, hF.2.2.2.2.2.1, hF.2.2.2.2.2.2.1, hF.2.2.2.2.2.2.2.1, hF.2.2.2.2.2.2.2.2.1, hF.2.2.2.2.2.2.2.2.2.1, hF.2.2.2.2.2.2.2.2.2.2.1, hF.2.2.2.2.2.2.2.2.2.2.2⟩
            refine Steps.plain (i := 4) (o := ?a1o4) [] ?a1h4 ?a1g4 ?a1d4 ?a1s4 ?a1r4
            case a1h4 => (simp only [List.getElem?_toArray, List.getElem?_cons_succ, List.getElem?_cons_zero]; rfl)
            case a1g4 => rfl
            case a1d4 => kernel_rfl
            case a1s4 =>
              rintro L aa w h0 _ ⟨v51, v52, v53, v54, v55, v56, v57, v58, v59, v60, v61, v62, g5, rfl, hO, hI, hF⟩ K hK
              simp only [fr, List.foldl_cons, List.foldl_nil, Act.put, List.setIfInBounds_toArray, List.set_cons_zero, List.set_cons_succ]
              go_simp
              exact hK _ _ ⟨v51, v52, v53, v54, (Value.pointer (some ⟨b14, 3, none⟩)), v56, v57, v58, v59, v60, v61, v62, g5, (by (simp only [fr, List.foldl_cons, List.foldl_nil, Act.put, List.setIfInBounds_toArray, List.set_cons_zero, List.set_cons_succ]); try rfl), hO, hI, hF.1, hF.2.1, hF.2.2.1, hF.2.2.2.1, Lib.hid (fun _ => rfl), hF.2.2.2.2.2.1, hF.2.2.2.2.2.2.1, hF.2.2.2.2.2.2.2.1, hF.2.2.2.2.2.2.2.2.1, hF.2.2.2.2.2.2.2.2.2.1, hF.2.2.2.2.2.2.2.2.2.2.1, hF.2.2.2.2.2.2.2.2.2.2.2⟩
            refine Steps.plain (i := 5) (o := ?a1o5) [4] ?a1h5 ?a1g5 ?a1d5 ?a1s5 ?a1r5
            case a1h5 => (simp only [List.getElem?_toArray, List.getElem?_cons_succ, List.getElem?_cons_zero]; rfl)
            case a1g5 => rfl
            case a1d5 => kernel_rfl
            case a1s5 =>
              rintro L aa w h0 ⟨e4, _⟩ ⟨v51, v52, v53, v54, v55, v56, v57, v58, v59, v60, v61, v62, g5, rfl, hO, hI, hF⟩ K hK
              obtain rfl := (hF.2.2.2.2.1).out e4
              simp only [fr, List.foldl_cons, List.foldl_nil, Act.put, List.setIfInBounds_toArray, List.set_cons_zero, List.set_cons_succ]
              have x0 := only_cellF hO x3 hf14
              go_simp
              exact hK _ _ ⟨v51, v52, v53, v54, (Value.pointer (some ⟨b14, 3, none⟩)), (Value.slice AR4 n4 cR4), v57, v58, v59, v60, v61, v62, g5, (by (simp only [fr, List.foldl_cons, List.foldl_nil, Act.put, List.setIfInBounds_toArray, List.set_cons_zero, List.set_cons_succ]); try rfl), hO, hI, hF.1, hF.2.1, hF.2.2.1, hF.2.2.2.1, hF.2.2.2.2.1, Lib.hid (fun _ => rfl), hF.2.2.2.2.2.2.1, hF.2.2.2.2.2.2.2.1, hF.2.2.2.2.2.2.2.2.1, hF.2.2.2.2.2.2.2.2.2.1, hF.2.2.2.2.2.2.2.2.2.2.1, hF.2.2.2.2.2.2.2.2.2.2.2⟩
            refine Steps.plain (i := 6) (o := ?a1o6) [5] ?a1h6 ?a1g6 ?a1d6 ?a1s6 ?a1r6
            case a1h6 => (simp only [List.getElem?_toArray, List.getElem?_cons_succ, List.getElem?_cons_zero]; rfl)
            case a1g6 => rfl
            case a1d6 => kernel_rfl
            case a1s6 =>
              rintro L aa w h0 ⟨e5, _⟩ ⟨v51, v52, v53, v54, v55, v56, v57, v58, v59, v60, v61, v62, g5, rfl, hO, hI, hF⟩ K hK
              obtain rfl := (hF.2.2.2.2.2.1).out e5
              simp only [fr, List.foldl_cons, List.foldl_nil, Act.put, List.setIfInBounds_toArray, List.set_cons_zero, List.set_cons_succ]
              go_simp
              exact hK _ _ ⟨v51, v52, v53, v54, v55, (Value.slice AR4 n4 cR4), (Value.int .i64 n4), v58, v59, v60, v61, v62, g5, (by (simp only [fr, List.foldl_cons, List.foldl_nil, Act.put, List.setIfInBounds_toArray, List.set_cons_zero, List.set_cons_succ]); try rfl), hO, hI, hF.1, hF.2.1, hF.2.2.1, hF.2.2.2.1, hF.2.2.2.2.1, hF.2.2.2.2.2.1, Lib.hid (fun _ => rfl), hF.2.2.2.2.2.2.2.1, hF.2.2.2.2.2.2.2.2.1, hF.2.2.2.2.2.2.2.2.2.1, hF.2.2.2.2.2.2.2.2.2.2.1, hF.2.2.2.2.2.2.2.2.2.2.2⟩
            refine Steps.plain (i := 7) (o := ?a1o7) [] ?a1h7 ?a1g7 ?a1d7 ?a1s7 ?a1r7
            case a1h7 => (simp only [List.getElem?_toArray, List.getElem?_cons_succ, List.getElem?_cons_zero]; rfl)
            case a1g7 => rfl
            case a1d7 => kernel_rfl
            case a1s7 =>
              rintro L aa w h0 _ ⟨v51, v52, v53, v54, v55, v56, v57, v58, v59, v60, v61, v62, g5, rfl, hO, hI, hF⟩ K hK
              simp only [fr, List.foldl_cons, List.foldl_nil, Act.put, List.setIfInBounds_toArray, List.set_cons_zero, List.set_cons_succ]
              go_simp
              exact hK _ _ ⟨v51, v52, v53, v54, v55, v56, v57, (Value.pointer (some ⟨bq, 3, none⟩)), v59, v60, v61, v62, g5, (by (simp only [fr, List.foldl_cons, List.foldl_nil, Act.put, List.setIfInBounds_toArray, List.set_cons_zero, List.set_cons_succ]); try rfl), hO, hI, hF.1, hF.2.1, hF.2.2.1, hF.2.2.2.1, hF.2.2.2.2.1, hF.2.2.2.2.2.1, hF.2.2.2.2.2.2.1, Lib.hid (fun _ => rfl), hF.2.2.2.2.2.2.2.2.1, hF.2.2.2.2.2.2.2.2.2.1, hF.2.2.2.2.2.2.2.2.2.2.1, hF.2.2.2.2.2.2.2.2.2.2.2⟩
            refine Steps.plain (i := 8) (o := ?a1o8) [7] ?a1h8 ?a1g8 ?a1d8 ?a1s8 ?a1r8
            case a1h8 => (simp only [List.getElem?_toArray, List.getElem?_cons_succ, List.getElem?_cons_zero]; rfl)
            case a1g8 => rfl
            case a1d8 => kernel_rfl
            case a1s8 =>
              rintro L aa w h0 ⟨e7, _⟩ ⟨v51, v52, v53, v54, v55, v56, v57, v58, v59, v60, v61, v62, g5, rfl, hO, hI, hF⟩ K hK
              obtain rfl := (hF.2.2.2.2.2.2.2.1).out e7
              simp only [fr, List.foldl_cons, List.foldl_nil, Act.put, List.setIfInBounds_toArray, List.set_cons_zero, List.set_cons_succ]
              have x0 := only_cellF hO y3 hfq
              go_simp
              exact hK _ _ ⟨v51, v52, v53, v54, v55, v56, v57, (Value.pointer (some ⟨bq, 3, none⟩)), (Value.slice AR n cR), v60, v61, v62, g5, (by (simp only [fr, List.foldl_cons, List.foldl_nil, Act.put, List.setIfInBounds_toArray, List.set_cons_zero, List.set_cons_succ]); try rfl), hO, hI, hF.1, hF.2.1, hF.2.2.1, hF.2.2.2.1, hF.2.2.2.2.1, hF.2.2.2.2.2.1, hF.2.2.2.2.2.2.1, hF.2.2.2.2.2.2.2.1, Lib.hid (fun _ => rfl), hF.2.2.2.2.2.2.2.2.2.1, hF.2.2.2.2.2.2.2.2.2.2.1, hF.2.2.2.2.2.2.2.2.2.2.2⟩
            refine Steps.plain (i := 9) (o := ?a1o9) [8] ?a1h9 ?a1g9 ?a1d9 ?a1s9 ?a1r9
            case a1h9 => (simp only [List.getElem?_toArray, List.getElem?_cons_succ, List.getElem?_cons_zero]; rfl)
            case a1g9 => rfl
            case a1d9 => kernel_rfl
            case a1s9 =>
              rintro L aa w h0 ⟨e8, _⟩ ⟨v51, v52, v53, v54, v55, v56, v57, v58, v59, v60, v61, v62, g5, rfl, hO, hI, hF⟩ K hK
              obtain rfl := (hF.2.2.2.2.2.2.2.2.1).out e8
              simp only [fr, List.foldl_cons, List.foldl_nil, Act.put, List.setIfInBounds_toArray, List.set_cons_zero, List.set_cons_succ]
              go_simp
              exact hK _ _ ⟨v51, v52, v53, v54, v55, v56, v57, v58, (Value.slice AR n cR), (Value.int .i64 n), v61, v62, g5, (by (simp only [fr, List.foldl_cons, List.foldl_nil, Act.put, List.setIfInBounds_toArray, List.set_cons_zero, List.set_cons_succ]); try rfl), hO, hI, hF.1, hF.2.1, hF.2.2.1, hF.2.2.2.1, hF.2.2.2.2.1, hF.2.2.2.2.2.1, hF.2.2.2.2.2.2.1, hF.2.2.2.2.2.2.2.1, hF.2.2.2.2.2.2.2.2.1, Lib.hid (fun _ => rfl), hF.2.2.2.2.2.2.2.2.2.2.1, hF.2.2.2.2.2.2.2.2.2.2.2⟩
            refine Steps.plain (i := 10) (o := ?a1o10) [6, 9] ?a1h10 ?a1g10 ?a1d10 ?a1s10 ?a1r10
            case a1h10 => (simp only [List.getElem?_toArray, List.getElem?_cons_succ, List.getElem?_cons_zero]; rfl)
            case a1g10 => rfl
            case a1d10 => kernel_rfl
            case a1s10 =>
              rintro L aa w h0 ⟨e6, e9, _⟩ ⟨v51, v52, v53, v54, v55, v56, v57, v58, v59, v60, v61, v62, g5, rfl, hO, hI, hF⟩ K hK
              obtain rfl := (hF.2.2.2.2.2.2.1).out e6
              obtain rfl := (hF.2.2.2.2.2.2.2.2.2.1).out e9
              simp only [fr, List.foldl_cons, List.foldl_nil, Act.put, List.setIfInBounds_toArray, List.set_cons_zero, List.set_cons_succ]
              have ev2 := ev
              go_simp
              exact hK _ _ ⟨v51, v52, v53, v54, v55, v56, (Value.int .i64 n4), v58, v59, (Value.int .i64 n), (Value.int .i64 v), v62, g5, (by (simp only [fr, List.foldl_cons, List.foldl_nil, Act.put, List.setIfInBounds_toArray, List.set_cons_zero, List.set_cons_succ]); try rfl), hO, hI, hF.1, hF.2.1, hF.2.2.1, hF.2.2.2.1, hF.2.2.2.2.1, hF.2.2.2.2.2.1, hF.2.2.2.2.2.2.1, hF.2.2.2.2.2.2.2.1, hF.2.2.2.2.2.2.2.2.1, hF.2.2.2.2.2.2.2.2.2.1, Lib.hid (fun _ => rfl), hF.2.2.2.2.2.2.2.2.2.2.2⟩
            refine Steps.plain (i := 11) (o := ?a1o11) [3, 10] ?a1h11 ?a1g11 ?a1d11 ?a1s11 ?a1r11
            case a1h11 => (simp only [List.getElem?_toArray, List.getElem?_cons_succ, List.getElem?_cons_zero]; rfl)
            case a1g11 => rfl
            case a1d11 => kernel_rfl
            case a1s11 =>
              rintro L aa w h0 ⟨e3, e10, _⟩ ⟨v51, v52, v53, v54, v55, v56, v57, v58, v59, v60, v61, v62, g5, rfl, hO, hI, hF⟩ K hK
              obtain rfl := (hF.2.2.2.1).out e3
              obtain rfl := (hF.2.2.2.2.2.2.2.2.2.2.1).out e10
              simp only [fr, List.foldl_cons, List.foldl_nil, Act.put, List.setIfInBounds_toArray, List.set_cons_zero, List.set_cons_succ]
              have qv : (v != v) = false := bne_self_eq_false v
              go_simp
              exact hK _ _ ⟨v51, v52, v53, (Value.int .i64 v), v55, v56, v57, v58, v59, v60, (Value.int .i64 v), (Value.bool false), g5, (by (simp only [fr, List.foldl_cons, List.foldl_nil, Act.put, List.setIfInBounds_toArray, List.set_cons_zero, List.set_cons_succ]); try rfl), hO, hI, hF.1, hF.2.1, hF.2.2.1, hF.2.2.2.1, hF.2.2.2.2.1, hF.2.2.2.2.2.1, hF.2.2.2.2.2.2.1, hF.2.2.2.2.2.2.2.1, hF.2.2.2.2.2.2.2.2.1, hF.2.2.2.2.2.2.2.2.2.1, hF.2.2.2.2.2.2.2.2.2.2.1, Lib.hid (fun _ => rfl)⟩
            exact Steps.nil
          case a1D =>
            rintro L aa w hL ⟨v51, v52, v53, v54, v55, v56, v57, v58, v59, v60, v61, v62, g5, rfl, hO, hI, hF⟩
            obtain rfl := (hF.1).out (hL 0 (by decide))
            obtain rfl := (hF.2.1).out (hL 1 (by decide))
            obtain rfl := (hF.2.2.1).out (hL 2 (by decide))
            obtain rfl := (hF.2.2.2.1).out (hL 3 (by decide))
            obtain rfl := (hF.2.2.2.2.1).out (hL 4 (by decide))
            obtain rfl := (hF.2.2.2.2.2.1).out (hL 5 (by decide))
            obtain rfl := (hF.2.2.2.2.2.2.1).out (hL 6 (by decide))
            obtain rfl := (hF.2.2.2.2.2.2.2.1).out (hL 7 (by decide))
            obtain rfl := (hF.2.2.2.2.2.2.2.2.1).out (hL 8 (by decide))
            obtain rfl := (hF.2.2.2.2.2.2.2.2.2.1).out (hL 9 (by decide))
            obtain rfl := (hF.2.2.2.2.2.2.2.2.2.2.1).out (hL 10 (by decide))
            obtain rfl := (hF.2.2.2.2.2.2.2.2.2.2.2).out (hL 11 (by decide))
            have l0 := hL 0 (by decide)
            have l1 := hL 1 (by decide)
            have l2 := hL 2 (by decide)
            have l3 := hL 3 (by decide)
            have l4 := hL 4 (by decide)
            have l5 := hL 5 (by decide)
            have l6 := hL 6 (by decide)
            have l7 := hL 7 (by decide)
            have l8 := hL 8 (by decide)
            have l9 := hL 9 (by decide)
            have l10 := hL 10 (by decide)
            have l11 := hL 11 (by decide)
            clear hL
            simp only [fr, List.foldl_cons, List.foldl_nil, Act.put, List.setIfInBounds_toArray, List.set_cons_zero, List.set_cons_succ]
            obtain ⟨hI6, hg6⟩ := hI.out.2 l3
            have I5 := Lib.hid hI6
            have M5 := Lib.hid (show Mv Y w p b g g5 from ⟨hg6, hO⟩)
            have V5 := VY.out.only hO hf14
            have V5q := Lib.hid (VQY.out.only hO hfq)
            have u0 : w.cell? ⟨b14, 0, none⟩ = some (.int .i64 KK) := V5.cell 0
            have u1 : w.cell? ⟨b14, 1, none⟩ = some (.int .i64 W) := V5.cell 1
            have u2 : w.cell? ⟨b14, 2, none⟩ = some (.slice AL nL cL) := V5.cell 2
            have u3 : w.cell? ⟨b14, 3, none⟩ = some (.slice AR4 n4 cR4) := V5.cell 3
            have u4 : w.cell? ⟨b14, 4, none⟩ = some (.slice AM4 n4 cM4) := V5.cell 4
            obtain ⟨v1, v2, v3⟩ := V5q.out.facts
            clear hI6 hg6 hI hO V5 l0 l1 l2 l3 l4 l5 l6 l7 l8 l9 l10 l11 a1 y3 x3 ev
            go_wp2
            go_meet
            case rel => exact ⟨g5, AL, cL, AR4, cR4, AM4, cM4, Lq, s', Lib.hid (PL.next HX.out BY.out HR5.out (I5.out.more (by omega)) M5.out (Below.refl _ _) (oq_set (oq_set (oq_set (oq_set (oq_set (Only.refl _ _) _ _) _ _) _ _) _ _) _ _) (by rw [HNL.out, HN4.out]; exact vr_set5 V5q.out _ _ _ _ _) (by rw [HN4.out]; exact hal2) HLP.out (by have := HX.out.ln; omega))⟩
      case rest =>
        clear a0 a1 HX VX HFx hd hp1 hp2 ht1 ht2 hn1 hn2
        obtain ⟨g, AL, cL, AR, cR, AM, cM, Lq, s, HP⟩ := hcut
        obtain ⟨Z, rfl⟩ : ∃ V : World, V = wc := ⟨_, rfl⟩
        obtain ⟨nL, hnL⟩ : ∃ n, Lq.length = n := ⟨_, rfl⟩
        obtain ⟨n, hn⟩ : ∃ n, s.2.length = n := ⟨_, rfl⟩
        have HNL := Lib.hid hnL
        have HN := Lib.hid hn
        have hn6 : n ≤ 6000 := by have := HP.out.len; omega
        have HVQ := Lib.hid (fun (w' : World) (h : PL w0 w' p b g KK W (i + 1) bq m (some ⟨b0, o0, none⟩) l AL cL AR cR AM cM Lq s) => show Vr w' bq 30 #[.int .i64 KK, .int .i64 W, .slice AL nL cL, .slice AR n cR, .slice AM n cM] from by rw [← hnL, ← hn]; exact h.v)
        have y3 : Z.cell? ⟨bq, 3, none⟩ = some (.slice AR n cR) := (HVQ.out _ HP.out).cell 3
        have HNX := Lib.hid (fun (w' : World) (h : Iqu w' p b g KK W (i + 1) s.1 s.2) => next_any p b g KK W (i + 1) s.1 s.2 w' h)
        rw [hn] at HNX
        have HSM := Lib.hid (fun (w' : World) (h : PL w0 w' p b g KK W (i + 1) bq m (some ⟨b0, o0, none⟩) l AL cL AR cR AM cM Lq s) (t : Int) => same_any (FB p b g bq) p b g KK W (i + 1) AL cL AR cR AM cM Lq t s w' h.r h.q hK8 h.len)
        rw [hnL, hn] at HSM
        have qn : ((n : Int) != (n : Int)) = false := bne_self_eq_false _
        clear hnL hn
        go_upto_region 21 with (fail)
        refine wp_region_any (by kernel_rfl) ?_
        change wpAny _ _ _ _ _ _ _ (World.drew _)
        refine wpAny_go (fun A0 L aa w => ∃ (v90 v91 v92 v93 v94 v95 : Value), aa = fr A0 [(90, v90), (91, v91), (92, v92), (93, v93), (94, v94), (95, v95)] ∧ (Below Z.heap.size Z w) ∧ Hid (L 0 = true → v90 = Value.pointer (some ⟨p, 0, none⟩)) ∧ Hid (L 1 = true → v91 = Value.int .i64 n) ∧ Hid (L 2 = true → v92 = Value.pointer (some ⟨bq, 3, none⟩)) ∧ Hid (L 3 = true → v93 = Value.slice AR n cR) ∧ Hid (L 4 = true → v94 = Value.int .i64 n) ∧ Hid (L 5 = true → v95 = Value.bool false)) [0, 1, 2, 3, 4, 5] (by kernel_rfl) (by kernel_rfl) ?a2I ?a2S ?a2D
        case a2I =>
          refine ⟨?a2v90, ?a2v91, ?a2v92, ?a2v93, ?a2v94, ?a2v95, ?a2fr, b_drew (Below.refl _ _), Lib.hid (no_yet (by kernel_rfl)), Lib.hid (no_yet (by kernel_rfl)), Lib.hid (no_yet (by kernel_rfl)), Lib.hid (no_yet (by kernel_rfl)), Lib.hid (no_yet (by kernel_rfl)), Lib.hid (no_yet (by kernel_rfl))⟩
          case a2fr => (simp only [fr, List.foldl_cons, List.foldl_nil, Act.put, List.setIfInBounds_toArray, List.set_cons_zero, List.set_cons_succ]; rfl)
        case a2S =>
          refine Steps.plain (i := 0) (o := ?a2o0) [] ?a2h0 ?a2g0 ?a2d0 ?a2s0 ?a2r0
          case a2h0 => (simp only [List.getElem?_toArray, List.getElem?_cons_zero]; rfl)
          case a2g0 => rfl
          case a2d0 => kernel_rfl
          case a2s0 =>
            rintro L aa w h0 _ ⟨v90, v91, v92, v93, v94, v95, rfl, hB, hF⟩ K hK
            simp only [fr, List.foldl_cons, List.foldl_nil, Act.put, List.setIfInBounds_toArray, List.set_cons_zero, List.set_cons_succ]
            go_simp
            exact hK _ _ ⟨(Value.pointer (some ⟨p, 0, none⟩)), v91, v92, v93, v94, v95, (by (simp only [fr, List.foldl_cons, List.foldl_nil, Act.put, List.setIfInBounds_toArray, List.set_cons_zero, List.set_cons_succ]); try rfl), hB, Lib.hid (fun _ => rfl), hF.2.1, hF.2.2.1, hF.2.2.2.1, hF.2.2.2.2.1, hF.2.2.2.2.2⟩
          refine Steps.plain (i := 1) (o := ?a2o1) [0] ?a2h1 ?a2g1 ?a2d1 ?a2s1 ?a2r1
          case a2h1 => (simp only [List.getElem?_toArray, List.getElem?_cons_succ, List.getElem?_cons_zero]; rfl)
          case a2g1 => rfl
          case a2d1 => kernel_rfl
          case a2s1 =>
            rintro L aa w h0 ⟨e0, _⟩ ⟨v90, v91, v92, v93, v94, v95, rfl, hB, hF⟩ K hK
            obtain rfl := (hF.1).out e0
            simp only [fr, List.foldl_cons, List.foldl_nil, Act.put, List.setIfInBounds_toArray, List.set_cons_zero, List.set_cons_succ]
            go_simp
            refine (HNX.out w (HP.out.call hB).q).mono ?_
            rintro e w5 ⟨rfl, rfl⟩
            exact hK _ _ ⟨(Value.pointer (some ⟨p, 0, none⟩)), (Value.int .i64 n), v92, v93, v94, v95, (by (simp only [fr, List.foldl_cons, List.foldl_nil, Act.put, List.setIfInBounds_toArray, List.set_cons_zero, List.set_cons_succ]); try rfl), hB, hF.1, Lib.hid (fun _ => rfl), hF.2.2.1, hF.2.2.2.1, hF.2.2.2.2.1, hF.2.2.2.2.2⟩
          refine Steps.plain (i := 2) (o := ?a2o2) [] ?a2h2 ?a2g2 ?a2d2 ?a2s2 ?a2r2
          case a2h2 => (simp only [List.getElem?_toArray, List.getElem?_cons_succ, List.getElem?_cons_zero]; rfl)
          case a2g2 => rfl
          case a2d2 => kernel_rfl
          case a2s2 =>
            rintro L aa w h0 _ ⟨v90, v91, v92, v93, v94, v95, rfl, hB, hF⟩ K hK
            simp only [fr, List.foldl_cons, List.foldl_nil, Act.put, List.setIfInBounds_toArray, List.set_cons_zero, List.set_cons_succ]
            go_simp
            exact hK _ _ ⟨v90, v91, (Value.pointer (some ⟨bq, 3, none⟩)), v93, v94, v95, (by (simp only [fr, List.foldl_cons, List.foldl_nil, Act.put, List.setIfInBounds_toArray, List.set_cons_zero, List.set_cons_succ]); try rfl), hB, hF.1, hF.2.1, Lib.hid (fun _ => rfl), hF.2.2.2.1, hF.2.2.2.2.1, hF.2.2.2.2.2⟩
          refine Steps.plain (i := 3) (o := ?a2o3) [2] ?a2h3 ?a2g3 ?a2d3 ?a2s3 ?a2r3
          case a2h3 => (simp only [List.getElem?_toArray, List.getElem?_cons_succ, List.getElem?_cons_zero]; rfl)
          case a2g3 => rfl
          case a2d3 => kernel_rfl
          case a2s3 =>
            rintro L aa w h0 ⟨e2, _⟩ ⟨v90, v91, v92, v93, v94, v95, rfl, hB, hF⟩ K hK
            obtain rfl := (hF.2.2.1).out e2
            simp only [fr, List.foldl_cons, List.foldl_nil, Act.put, List.setIfInBounds_toArray, List.set_cons_zero, List.set_cons_succ]
            have x0 := cell_keep hB y3
            go_simp
            exact hK _ _ ⟨v90, v91, (Value.pointer (some ⟨bq, 3, none⟩)), (Value.slice AR n cR), v94, v95, (by (simp only [fr, List.foldl_cons, List.foldl_nil, Act.put, List.setIfInBounds_toArray, List.set_cons_zero, List.set_cons_succ]); try rfl), hB, hF.1, hF.2.1, hF.2.2.1, Lib.hid (fun _ => rfl), hF.2.2.2.2.1, hF.2.2.2.2.2⟩
          refine Steps.plain (i := 4) (o := ?a2o4) [3] ?a2h4 ?a2g4 ?a2d4 ?a2s4 ?a2r4
          case a2h4 => (simp only [List.getElem?_toArray, List.getElem?_cons_succ, List.getElem?_cons_zero]; rfl)
          case a2g4 => rfl
          case a2d4 => kernel_rfl
          case a2s4 =>
            rintro L aa w h0 ⟨e3, _⟩ ⟨v90, v91, v92, v93, v94, v95, rfl, hB, hF⟩ K hK
            obtain rfl := (hF.2.2.2.1).out e3
            simp only [fr, List.foldl_cons, List.foldl_nil, Act.put, List.setIfInBounds_toArray, List.set_cons_zero, List.set_cons_succ]
            go_simp
            exact hK _ _ ⟨v90, v91, v92, (Value.slice AR n cR), (Value.int .i64 n), v95, (by (simp only [fr, List.foldl_cons, List.foldl_nil, Act.put, List.setIfInBounds_toArray, List.set_cons_zero, List.set_cons_succ]); try rfl), hB, hF.1, hF.2.1, hF.2.2.1, hF.2.2.2.1, Lib.hid (fun _ => rfl), hF.2.2.2.2.2⟩
          refine Steps.plain (i := 5) (o := ?a2o5) [1, 4] ?a2h5 ?a2g5 ?a2d5 ?a2s5 ?a2r5
          case a2h5 => (simp only [List.getElem?_toArray, List.getElem?_cons_succ, List.getElem?_cons_zero]; rfl)
          case a2g5 => rfl
          case a2d5 => kernel_rfl
          case a2s5 =>
            rintro L aa w h0 ⟨e1, e4, _⟩ ⟨v90, v91, v92, v93, v94, v95, rfl, hB, hF⟩ K hK
            obtain rfl := (hF.2.1).out e1
            obtain rfl := (hF.2.2.2.2.1).out e4
            simp only [fr, List.foldl_cons, List.foldl_nil, Act.put, List.setIfInBounds_toArray, List.set_cons_zero, List.set_cons_succ]
            go_simp
            exact hK _ _ ⟨v90, (Value.int .i64 n), v92, v93, (Value.int .i64 n), (Value.bool false), (by (simp only [fr, List.foldl_cons, List.foldl_nil, Act.put, List.setIfInBounds_toArray, List.set_cons_zero, List.set_cons_succ]); try rfl), hB, hF.1, hF.2.1, hF.2.2.1, hF.2.2.2.1, hF.2.2.2.2.1, Lib.hid (fun _ => rfl)⟩
          exact Steps.nil
        case a2D =>
          rintro L aa w hL ⟨v90, v91, v92, v93, v94, v95, rfl, hB, hF⟩
          obtain rfl := (hF.1).out (hL 0 (by decide))
          obtain rfl := (hF.2.1).out (hL 1 (by decide))
          obtain rfl := (hF.2.2.1).out (hL 2 (by decide))
          obtain rfl := (hF.2.2.2.1).out (hL 3 (by decide))
          obtain rfl := (hF.2.2.2.2.1).out (hL 4 (by decide))
          obtain rfl := (hF.2.2.2.2.2).out (hL 5 (by decide))
          have l0 := hL 0 (by decide)
          have l1 := hL 1 (by decide)
          have l2 := hL 2 (by decide)
          have l3 := hL 3 (by decide)
          have l4 := hL 4 (by decide)
          have l5 := hL 5 (by decide)
          clear hL
          simp only [fr, List.foldl_cons, List.foldl_nil, Act.put, List.setIfInBounds_toArray, List.set_cons_zero, List.set_cons_succ]
          have HPw := Lib.hid (HP.out.call hB)
          clear hB l0 l1 l2 l3 l4 l5 y3 HP HNX
          obtain ⟨Y, rfl⟩ : ∃ V : World, V = w := ⟨_, rfl⟩
          have y3 : Y.cell? ⟨bq, 3, none⟩ = some (.slice AR n cR) := (HVQ.out _ HPw.out).cell 3
          have em : IntKind.i64.wrap ((n : Int) - 12) = (n : Int) - 12 := IntWalk.i64_in _ (by omega)
          go_upto_region 23 with (fail)
          go_cut [17] from 96 to 100 (fun s17 wx => ∃ t : Nat, t ≤ n ∧ s17 = .int .i64 t ∧ wx = Y)
          case first =>
            by_cases h12 : (0 : Int) ≤ (n : Int) - 12
            · have HT := Lib.hid (show (n : Int) - 12 = ((n - 12 : Nat) : Int) from by omega)
              go_wp2 <;> (go_meet; (case rel => first | exact ⟨n - 12, by omega, by rw [HT.out], rfl⟩ | exact ⟨0, by omega, rfl, rfl⟩))
            · go_wp2 <;> (go_meet; (case rel => first | exact ⟨0, by omega, rfl, rfl⟩))
          case rest =>
            obtain ⟨t0, ht0, rfl, rfl⟩ := hcut
            go_wp2
            go_loopw [17] (fun s17 wr => ∃ t : Nat, t ≤ n + 1 ∧ s17 = .int .i64 t ∧ Hid (PL w0 wr p b g KK W (i + 1) bq m (some ⟨b0, o0, none⟩) l AL cL AR cR AM cM Lq s)) (fun s17 _ => n + 1 - (intOf s17).toNat)
            case atStart => exact ⟨t0, by omega, rfl, HPw⟩
            case round =>
              clear HPw y3
              obtain ⟨t, ht, rfl, HPr⟩ := hrel
              have y0 : wr.cell? ⟨bq, 0, none⟩ = some (.int .i64 KK) := (HVQ.out _ HPr.out).cell 0
              have y1 : wr.cell? ⟨bq, 1, none⟩ = some (.int .i64 W) := (HVQ.out _ HPr.out).cell 1
              have y2 : wr.cell? ⟨bq, 2, none⟩ = some (.slice AL nL cL) := (HVQ.out _ HPr.out).cell 2
              have y3 : wr.cell? ⟨bq, 3, none⟩ = some (.slice AR n cR) := (HVQ.out _ HPr.out).cell 3
              have y4 : wr.cell? ⟨bq, 4, none⟩ = some (.slice AM n cM) := (HVQ.out _ HPr.out).cell 4
              by_cases hle : t ≤ n
              · have e1 : decide ((t : Int) ≤ (n : Int)) = true := by simp; omega
                have e1' : decide (t ≤ n) = true := by simp; omega
                go_wp2_with fail
                refine (HSM.out _ HPr.out (t : Int)).mono ?_
                rintro e w5 ⟨rfl, hb5⟩
                have HP5 := Lib.hid (Lib.hid (HPr.out.call hb5))
                clear hb5
                go_wp2
                go_roundw
                case rel => exact ⟨t + 1, by omega, by go_num, HP5.out⟩
                case measure => simp [intOf]; omega
              · have e1 : decide ((t : Int) ≤ (n : Int)) = false := by simp; omega
                have e1' : decide (t ≤ n) = false := by simp; omega
                have HP5 := Lib.hid HPr
                go_wp2
                go_roundw
                case rel => exact ⟨i + 1, g, AL, cL, AR, cR, AM, cM, Lq, s, by omega, by go_num, HP5.out⟩
                case measure => simp [intOf]; omega
    · have d1 : decide ((i : Int) < (m : Int)) = false := by simp; omega
      have d1' : decide (i < m) = false := decide_eq_false hlt
      have z0 : wo.cell? ⟨bq, 0, none⟩ = some (.int .i64 KK) := HP.out.v.cell 0
      have z1 : wo.cell? ⟨bq, 1, none⟩ = some (.int .i64 W) := HP.out.v.cell 1
      have z2 : wo.cell? ⟨bq, 2, none⟩ = some (.slice AL Lq.length cL) := HP.out.v.cell 2
      have z3 : wo.cell? ⟨bq, 3, none⟩ = some (.slice AR s.2.length cR) := HP.out.v.cell 3
      have z4 : wo.cell? ⟨bq, 4, none⟩ = some (.slice AM s.2.length cM) := HP.out.v.cell 4
      go_wp2_with fail
      refine (same_any (FB p b g bq) p b g KK W i AL cL AR cR AM cM Lq (-1) s _ HP.out.r HP.out.q hK8 HP.out.len).mono ?_
      rintro e w3 ⟨rfl, hb3⟩
      have HB3 := Lib.hid (b_call HP.out.hb hb3)
      clear hb3
      go_wp2_with fail
      refine (lives_any _).mono ?_
      rintro e w4 ⟨rfl, hb4⟩
      have HB4 := Lib.hid (b_call HB3.out hb4)
      go_wp2
      go_ret
      exact ⟨rfl, HB4.out⟩
end Go.Proofs.Ytdjmaljldajpiaa
