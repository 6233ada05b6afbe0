/-
  WHAT IS PROVED HERE: the walk of the law InputqueueIndependent: it returns true at every input, and leaves old memory as it was. Conditions: the arguments' lengths are a machine's.
-/
import Derived.Test.YtdjmaljldajpiaaIqI1
import Derived.Test.YtdjmaljldajpiaaStep
import Derived.Deep.DeepCutAuto
namespace Go.Proofs.Ytdjmaljldajpiaa
set_option linter.unusedVariables false
open Go.ChangeShapes Go.WideShapes Go.ChangeAt Go.RowKit
open Go.Maps (Keyed)

set_option maxRecDepth 100000 in
set_option maxHeartbeats 8000000 in
theorem independent_walk (a c wh : Int) (A : Option Addr) (n0 c0 : Nat) (l : List Int) (ot : Int) (w : World) (ha : I64 a) (hc : I64 c) (hwh : I64 wh) (hot : I64 ot)
    (nc : n0 ≤ c0) (cm : c0 ≤ maxLen) (ln : l.length = n0) (rd : Rd w w.heap.size 1 A n0 (l.map (Value.int .i64))) (wf : ∀ x ∈ l, (Lit.int .i64 x).wf = true) :
    Calls Try.prog 7 #[.int .i64 a, .int .i64 c, .int .i64 wh, .slice A n0 c0, .int .i64 ot] w fun e w' => e = .returned (.bool true) ∧ Below w.heap.size w w' := by
  have RD := Lib.hid rd
  have H64 := Lib.hid (fun x hx => bounds_i64 (wf x hx))
  have hn : n0 ≤ 9223372036854775807 := by unfold maxLen at cm; omega
  have LN := Lib.hid ln
  obtain ⟨KK, hK, hK1, hK8⟩ := kay2_nat a
  have HK := Lib.hid hK
  have hkb := around_bd a 7 (by omega)
  obtain ⟨W, hW, hW8⟩ := wait_nat c
  have HW := Lib.hid hW
  obtain ⟨P, hP, hPK⟩ : ∃ P : Nat, around wh KK = P ∧ P < KK := by
    have := around_bd wh KK (by omega)
    exact ⟨(around wh KK).toNat, by omega, by omega⟩
  have HP := Lib.hid hP
  have hob := around_bd ot 1000 (by omega)
  obtain ⟨oo, ho⟩ : ∃ o, around ot 1000 = o := ⟨_, rfl⟩
  rw [ho] at hob
  have HO := Lib.hid ho
  obtain ⟨hob1, hob2⟩ := hob
  unfold I64 at ha hc hwh hot
  obtain ⟨ha1, ha2⟩ := ha
  obtain ⟨hc1, hc2⟩ := hc
  obtain ⟨hwh1, hwh2⟩ := hwh
  obtain ⟨hot1, hot2⟩ := hot
  obtain ⟨m, hm⟩ : ∃ m, min n0 40 = m := ⟨_, rfl⟩
  have hm40 : m ≤ 40 := by omega
  have HM := Lib.hid hm
  clear rd wf nc cm ln hK hW hm hP ho
  go_enter Try.func7, Try.ntmps7
  go_wp2_with fail
  refine (around_any a 7 _ ha1 ha2 (by omega) (by omega)).mono ?_
  rintro e w_ ⟨rfl, rfl⟩
  go_wp2_with fail
  refine (around_any c 9 _ hc1 hc2 (by omega) (by omega)).mono ?_
  rintro e w_ ⟨rfl, rfl⟩
  rw [HK.out, HW.out]
  go_wp2_with fail
  refine (new_q KK W _ (by omega) hK8 hW8).mono ?_
  rintro e w1 ⟨pa, ba, rfl, hI1, hF1, hb1⟩
  have H1 := Lib.hid (And.intro hI1 hF1)
  clear hI1 hF1 hkb
  go_wp2_with fail
  refine (new_q KK W _ (by omega) hK8 hW8).mono ?_
  rintro e w2 ⟨pb, bb, rfl, hI2, hF2, hb2⟩
  have HT2 := Lib.hid (show Two w w2 pa ba none pb bb none KK W 0 s0 s0 from ⟨⟨0, Nat.le_refl _, H1.out.1.below hb2⟩, ⟨0, Nat.le_refl _, hI2⟩, fun j h1 h2 => by have := H1.out.1.lt j h1; have := hF2 j h2; omega, by decide, by decide, H1.out.2, fun j hj => Nat.le_trans hb1.size (hF2 j hj), b_call hb1 hb2⟩)
  clear hI2 hF2 H1
  go_wp2_with fail
  refine (around_any wh (KK : Int) _ hwh1 hwh2 (by omega) (by omega)).mono ?_
  rintro e w_ ⟨rfl, rfl⟩
  rw [HP.out]
  go_wp2_with fail
  refine (acts_any A n0 c0 l (KK : Int) _ (by omega) (by omega) LN.out (rd_step (rd_step RD.out hb1) hb2) H64.out hn).mono ?_
  rintro e w3 ⟨A1, c1, rfl, o1, hb3⟩
  rw [HM.out] at o1 ⊢
  have RA := Lib.hid (show RdT w3 pa ba none pb bb none 7 A1 m (actsC l KK m) from ⟨(OwnA.new HT2.out.iqu o1).rd, fun ad ha hf => by have := (own_blk o1 ad ha).1; have := HT2.out.swap.iqu.lt _ hf; omega⟩)
  have HT3 := Lib.hid (HT2.out.below hb3)
  clear o1 hb1 hb2 hb3 HT2 RD H64 LN HM HK HW HP
  go_wp2
  go_loopw [17] (fun s17 wr => ∃ (i : Nat) (ga gb : Option Nat) (sa sb : QS), i ≤ m ∧ s17 = .int .i64 i ∧ Hid (Two w wr pa ba ga pb bb gb KK W (2 * i) sa sb ∧ Ind P sa sb ∧ RdT wr pa ba ga pb bb gb 7 A1 m (actsC l KK m))) (fun i _ => m - (intOf i).toNat)
  case atStart => exact ⟨0, none, none, s0, s0, by omega, rfl, Lib.hid ⟨HT3.out, Ind.start P, RA.out⟩⟩
  case round =>
    obtain ⟨i, ga, gb, sa, sb, hi, rfl, HL⟩ := hrel
    obtain ⟨wo, rfl⟩ : ∃ wo : World, wo = wr := ⟨_, rfl⟩
    by_cases hlt : i < m
    · have d1 : decide (i < m) = true := decide_eq_true hlt
      obtain ⟨b0, o0, rfl, hb0, c0', c1', c2', c3', c4', c5', c6'⟩ := HL.out.2.2.1.openAct (i := i) hlt
      obtain ⟨d, now, pl, tk, x, y, z, hact, hd, ⟨hn1, hn2⟩, hp, ht⟩ := act_letters l (k := KK) (by omega) (by omega) (i := i) (by omega)
      rw [hact] at c0' c1' c2' c3' c4' c5' c6'
      clear hact
      go_upto_region 14 with fail
      refine name_world ?_
      intro X hX
      have hBX : Below wo.heap.size wo X := by rw [hX]; (repeat (first | (with_reducible exact Below.refl _ _) | (with_reducible assumption) | (with_reducible refine b_drew ?_) | (with_reducible refine b_drewN ?_ _) | (with_reducible refine b_alloc ?_ _) | ((with_reducible refine b_set ?_ ?_ _); rotate_left; (focus (first | omega | (simp; done) | (simp; omega) | (simp at *; omega)))) | (with_reducible refine b_call ?_ (by with_reducible assumption))))
      have VX := Lib.hid (show Vr X wo.heap.size 36 #[.int .i64 d, .int .i64 now, .int .i64 pl, .int .i64 tk, .int .i64 x, .int .i64 y, .int .i64 z] ∧ Vr X (wo.heap.size + 1) 36 #[.int .i64 d, .int .i64 now, .int .i64 pl, .int .i64 tk, .int .i64 x, .int .i64 y, .int .i64 z] from by
        rw [hX]
        exact ⟨(Vr.new wo _ _).alloc _, by simpa using Vr.new (wo.alloc (.cells #[.int .i64 d, .int .i64 now, .int .i64 pl, .int .i64 tk, .int .i64 x, .int .i64 y, .int .i64 z] 36)) 36 #[.int .i64 d, .int .i64 now, .int .i64 pl, .int .i64 tk, .int .i64 x, .int .i64 y, .int .i64 z]⟩)
      clear hX c0' c1' c2' c3' c4' c5' c6' hb0
      obtain ⟨v1, v2, v3⟩ := VX.out.1.facts
      obtain ⟨u1', u2', u3'⟩ := VX.out.2.facts
      obtain ⟨cv, hcv⟩ : ∃ q, (decide (pl = (P : Int)) && decide (Val (x, y, z))) = q := ⟨_, rfl⟩
      have HCV := Lib.hid hcv
      clear hcv
      go_cut [71] from 61 to 71 (fun s71 wx => s71 = .bool cv ∧ Below X.heap.size X wx)
      case first =>
        by_cases c1 : pl = (P : Int)
        · have q1 : (pl == (P : Int)) = true := by rw [beq_iff_eq]; exact c1
          by_cases c2 : Val (x, y, z)
          · have hv := vcode_yes c2
            have ec : cv = true := by rw [← HCV.out]; simp [c1, c2]
            clear c1 c2
            go_wp2_with fail
            refine (refvalidate3 _ _ _ _).mono ?_
            rintro e w5 ⟨rfl, hb5⟩
            go_wp2
            go_meet
            case rel => exact ⟨by rw [ec], by (repeat (first | (with_reducible exact Below.refl _ _) | (with_reducible assumption) | (with_reducible refine b_drew ?_) | (with_reducible refine b_drewN ?_ _) | (with_reducible refine b_alloc ?_ _) | ((with_reducible refine b_set ?_ ?_ _); rotate_left; (focus (first | omega | (simp; done) | (simp; omega) | (simp at *; omega)))) | (with_reducible refine b_call ?_ (by with_reducible assumption))))⟩
          · have hv := vcode_no c2
            have ec : cv = false := by rw [← HCV.out]; simp [c1, c2]
            clear c1 c2
            go_wp2_with fail
            refine (refvalidate3 _ _ _ _).mono ?_
            rintro e w5 ⟨rfl, hb5⟩
            go_wp2
            go_meet
            case rel => exact ⟨by rw [ec], by (repeat (first | (with_reducible exact Below.refl _ _) | (with_reducible assumption) | (with_reducible refine b_drew ?_) | (with_reducible refine b_drewN ?_ _) | (with_reducible refine b_alloc ?_ _) | ((with_reducible refine b_set ?_ ?_ _); rotate_left; (focus (first | omega | (simp; done) | (simp; omega) | (simp at *; omega)))) | (with_reducible refine b_call ?_ (by with_reducible assumption))))⟩
        · have q1 : (pl == (P : Int)) = false := by rw [beq_eq_false_iff_ne]; exact c1
          have ec : cv = false := by rw [← HCV.out]; simp [c1]
          clear c1
          go_wp2
          go_meet
          case rel => exact ⟨by rw [ec], by (repeat (first | (with_reducible exact Below.refl _ _) | (with_reducible assumption) | (with_reducible refine b_drew ?_) | (with_reducible refine b_drewN ?_ _) | (with_reducible refine b_alloc ?_ _) | ((with_reducible refine b_set ?_ ?_ _); rotate_left; (focus (first | omega | (simp; done) | (simp; omega) | (simp at *; omega)))) | (with_reducible refine b_call ?_ (by with_reducible assumption))))⟩
      case rest =>
        obtain ⟨rfl, hBc⟩ := hcut
        clear v1 v2 v3 u1' u2' u3'
        go_upto_if 71 with fail
        have VC := Lib.hid (And.intro (VX.out.1.call hBc) (VX.out.2.call hBc))
        have hBC := hBX.trans (hBc.mono hBX.size)
        go_cut [] from 71 to 77 (fun wx => ∃ y1 y2 y3 : Int, Hid (Vr wx wo.heap.size 36 #[.int .i64 d, .int .i64 now, .int .i64 pl, .int .i64 tk, .int .i64 x, .int .i64 y, .int .i64 z] ∧ Vr wx (wo.heap.size + 1) 36 #[.int .i64 d, .int .i64 now, .int .i64 pl, .int .i64 tk, .int .i64 y1, .int .i64 y2, .int .i64 y3] ∧ (Val (x, y, z) ↔ Val (y1, y2, y3)) ∧ (pl ≠ (P : Int) → (x, y, z) = (y1, y2, y3))) ∧ Below wo.heap.size wo wx)
        case first =>
          rcases cv with _ | _
          · go_wp2
            go_meet
            case rel => exact ⟨x, y, z, Lib.hid ⟨VC.out.1, VC.out.2, Iff.rfl, fun _ => rfl⟩, hBC⟩
          · have HCC := Lib.hid (show pl = (P : Int) ∧ Val (x, y, z) from by
              have := HCV.out
              rw [Bool.and_eq_true, decide_eq_true_iff, decide_eq_true_iff] at this
              exact this)
            go_wp2_with fail
            refine (around_any ot 1000 _ hot1 hot2 (by omega) (by omega)).mono ?_
            rintro e w_ ⟨rfl, rfl⟩
            rw [HO.out]
            go_wp2_with fail
            refine (of_any (oo + (i : Int)) _ (by omega) (by omega)).mono ?_
            rintro e w6 ⟨rfl, hb6⟩
            have V6 := Lib.hid (VC.out.2.call hb6)
            obtain ⟨v1, v2, v3⟩ := V6.out.facts
            have hz6 := hb6.size
            have hzC := hBC.size
            go_wp2
            go_meet
            case rel => exact ⟨(inpOf (oo + i)).1, (inpOf (oo + i)).2.1, (inpOf (oo + i)).2.2, Lib.hid ⟨(((VC.out.1.call hb6).far (by simp) _).far (by simp) _).far (by simp) _, by have := ((V6.out.set 4 (.int .i64 (inpOf (oo + i)).1)).set 5 (.int .i64 (inpOf (oo + i)).2.1)).set 6 (.int .i64 (inpOf (oo + i)).2.2); simpa using this, ⟨fun _ => inpOf_val _, fun _ => HCC.out.2⟩, fun h => absurd HCC.out.1 h⟩, ((((hBC.trans (hb6.mono hzC)).setCell (by simp) _).setCell (by simp) _).setCell (by simp) _)⟩
        case rest =>
          obtain ⟨y1, y2, y3, HXY, hB4⟩ := hcut
          obtain ⟨Z, hZ⟩ : ∃ Z : World, Z = wc := ⟨_, rfl⟩
          rw [← hZ] at HXY hB4 ⊢
          clear hZ hBC hBc hBX VC VX
          have HA := Lib.hid (show ActT Z pa ba ga pb bb gb wo.heap.size (wo.heap.size + 1) #[.int .i64 d, .int .i64 now, .int .i64 pl, .int .i64 tk, .int .i64 x, .int .i64 y, .int .i64 z] #[.int .i64 d, .int .i64 now, .int .i64 pl, .int .i64 tk, .int .i64 y1, .int .i64 y2, .int .i64 y3] from
            ⟨HXY.out.1, HXY.out.2.1, ⟨HXY.out.1.lt, fun h => by have := HL.out.1.iqu.lt _ h; omega, fun h => by have := HL.out.1.swap.iqu.lt _ h; omega⟩, ⟨HXY.out.2.1.lt, fun h => by have := HL.out.1.iqu.lt _ h; omega, fun h => by have := HL.out.1.swap.iqu.lt _ h; omega⟩⟩)
          have HT := Lib.hid (HL.out.1.below hB4)
          have HR := Lib.hid (HL.out.2.2.below hB4)
          have HI := Lib.hid HL.out.2.1
          have hla := HL.out.1.len
          have hlb := HL.out.1.len'
          have kZ := HA.out.cells
          rcases hd with rfl | rfl
          · obtain ⟨E, hE⟩ : ∃ E, offerE KK sa.2.length sa.1 now pl tk (x, y, z) = E := ⟨_, rfl⟩
            have hE' : offerE KK sb.2.length sb.1 now pl tk (y1, y2, y3) = E := (HI.out.err HXY.out.2.2.1).symm.trans hE
            have hin := HI.out.off (k := KK) (now := now) (pl := pl) (tk := tk) (x := (x, y, z)) (y := (y1, y2, y3)) HXY.out.2.2.1 HXY.out.2.2.2
            have HS := Lib.hid (And.intro hE (And.intro hE' hin))
            clear hE hE' hin
            have hoa : (offS KK now pl tk (x, y, z) sa).2.length ≤ 6000 := by rw [offS_rows]; exact hla
            have hob : (offS KK now pl tk (y1, y2, y3) sb).2.length ≤ 6000 := by rw [offS_rows]; exact hlb
            go_wp2_with fail
            go_region_held3 (fun w' => (∀ o, w'.cell? ⟨wo.heap.size, o, none⟩ = (#[.int .i64 0, .int .i64 now, .int .i64 pl, .int .i64 tk, .int .i64 x, .int .i64 y, .int .i64 z] : Array Value)[o]?) ∧ (∀ o, w'.cell? ⟨wo.heap.size + 1, o, none⟩ = (#[.int .i64 0, .int .i64 now, .int .i64 pl, .int .i64 tk, .int .i64 y1, .int .i64 y2, .int .i64 y3] : Array Value)[o]?)) (first | exact k7 | exact k5 | exact k6 | exact kZ) (first
              | (go_at_call 16; (with_reducible refine (offer_q pa ba ga KK W (2 * i + 1) sa _ now pl tk x y z _ E T6.out.1.iqu rfl HS.out.1 (i64_small (by omega) (by omega)) (i64_small (by omega) (by omega)) (i64_small (by omega) (by omega)) hK8 hla (by omega)).mono ?_); rintro e w5 ⟨rfl, hI5, m5⟩; have k7 := (T6.out.2.1.mv m5).cells; have T7 := Lib.hid (And.intro (T6.out.1.mv hI5 m5 (by omega) hoa) (T6.out.2.2.mv m5)); clear hI5 m5)
              | (go_at_call 16; (with_reducible refine (offer_q pa ba ga KK W (2 * i) sa _ now pl tk x y z _ E (HT.out.below (b_drew (Below.refl _ _))).iqu rfl HS.out.1 (i64_small (by omega) (by omega)) (i64_small (by omega) (by omega)) (i64_small (by omega) (by omega)) hK8 hla (by omega)).mono ?_); rintro e w5 ⟨rfl, hI5, m5⟩; have k5 := ((HA.out.below (b_drew (Below.refl _ _))).mv m5).cells; have T5 := Lib.hid (And.intro ((HT.out.below (b_drew (Below.refl _ _))).mv hI5 m5 (by omega) hoa) (And.intro ((HA.out.below (b_drew (Below.refl _ _))).mv m5) ((HR.out.below (b_drew (Below.refl _ _))).mv m5))); clear hI5 m5)
              | (go_at_call 16; (with_reducible refine (offer_q pb bb gb KK W (2 * i + 1) sb _ now pl tk y1 y2 y3 _ E T5.out.1.swap.iqu rfl HS.out.2.1 (i64_small (by omega) (by omega)) (i64_small (by omega) (by omega)) (i64_small (by omega) (by omega)) hK8 hlb (by omega)).mono ?_); rintro e w6 ⟨rfl, hI6, m6⟩; have k7 := (T5.out.2.1.swap.mv m6).swap.cells; have T7 := Lib.hid (And.intro (T5.out.1.swap.mv hI6 m6 (by omega) hob).swap (T5.out.2.2.swap.mv m6).swap); clear hI6 m6)
              | (go_at_call 16; (with_reducible refine (offer_q pb bb gb KK W (2 * i) sb _ now pl tk y1 y2 y3 _ E (HT.out.below (b_drew (Below.refl _ _))).swap.iqu rfl HS.out.2.1 (i64_small (by omega) (by omega)) (i64_small (by omega) (by omega)) (i64_small (by omega) (by omega)) hK8 hlb (by omega)).mono ?_); rintro e w6 ⟨rfl, hI6, m6⟩; have k6 := ((HA.out.below (b_drew (Below.refl _ _))).swap.mv m6).swap.cells; have T6 := Lib.hid (And.intro ((HT.out.below (b_drew (Below.refl _ _))).swap.mv hI6 m6 (by omega) hob).swap (And.intro ((HA.out.below (b_drew (Below.refl _ _))).swap.mv m6).swap ((HR.out.below (b_drew (Below.refl _ _))).swap.mv m6).swap)); clear hI6 m6))
            all_goals
              have qv : (E != E) = false := by simp
              go_wp2
              go_roundw
              case rel => exact ⟨i + 1, ga, gb, _, _, by omega, by go_num, Lib.hid ⟨T7.out.1.up (by omega), HS.out.2.2, T7.out.2⟩⟩
              case measure => simp [intOf]; omega
          · obtain ⟨sa', hsa⟩ : ∃ s, adv KK W now sa = s := ⟨_, rfl⟩
            obtain ⟨sb', hsb⟩ : ∃ s, adv KK W now sb = s := ⟨_, rfl⟩
            have hin := HI.out.adv (k := KK) (wt := W) (now := now) hla
            have hla' := (adv_len (k := KK) (wt := W) (now := now) sa hla).2
            have hlb' := (adv_len (k := KK) (wt := W) (now := now) sb hlb).2
            rw [hsa, hsb] at hin
            rw [hsa] at hla'
            rw [hsb] at hlb'
            obtain ⟨vv, hva⟩ : ∃ v, (sa'.2.length : Int) - sa.2.length = v := ⟨_, rfl⟩
            have hvb : (sb'.2.length : Int) - sb.2.length = vv := by rw [← hin.len, ← HI.out.len]; exact hva
            have HS := Lib.hid (And.intro hsa (And.intro hsb (And.intro hva (And.intro hvb hin))))
            clear hsa hsb hva hvb hin
            go_wp2_with fail
            go_region_held3 (fun w' => (∀ o, w'.cell? ⟨wo.heap.size, o, none⟩ = (#[.int .i64 1, .int .i64 now, .int .i64 pl, .int .i64 tk, .int .i64 x, .int .i64 y, .int .i64 z] : Array Value)[o]?) ∧ (∀ o, w'.cell? ⟨wo.heap.size + 1, o, none⟩ = (#[.int .i64 1, .int .i64 now, .int .i64 pl, .int .i64 tk, .int .i64 y1, .int .i64 y2, .int .i64 y3] : Array Value)[o]?)) (first | exact k7 | exact k5 | exact k6 | exact kZ) (first
              | (go_at_call 14; (with_reducible refine (advance_q pa ba ga KK W (2 * i) sa _ now sa' vv T6.out.1.iqu HS.out.1 HS.out.2.2.1 (i64_small (by omega) (by omega)) hK8 hW8 hla).mono ?_); rintro e w5 ⟨rfl, g5, hI5, m5⟩; have k7 := (T6.out.2.1.mv m5).cells; have T7 := Lib.hid (And.intro (T6.out.1.mv hI5 m5 (Nat.le_refl _) hla') (T6.out.2.2.mv m5)); clear hI5 m5)
              | (go_at_call 14; (with_reducible refine (advance_q pa ba ga KK W (2 * i) sa _ now sa' vv (HT.out.below (b_drew (Below.refl _ _))).iqu HS.out.1 HS.out.2.2.1 (i64_small (by omega) (by omega)) hK8 hW8 hla).mono ?_); rintro e w5 ⟨rfl, g5, hI5, m5⟩; have k5 := ((HA.out.below (b_drew (Below.refl _ _))).mv m5).cells; have T5 := Lib.hid (And.intro ((HT.out.below (b_drew (Below.refl _ _))).mv hI5 m5 (Nat.le_refl _) hla') (And.intro ((HA.out.below (b_drew (Below.refl _ _))).mv m5) ((HR.out.below (b_drew (Below.refl _ _))).mv m5))); clear hI5 m5)
              | (go_at_call 14; (with_reducible refine (advance_q pb bb gb KK W (2 * i) sb _ now sb' vv T5.out.1.swap.iqu HS.out.2.1 HS.out.2.2.2.1 (i64_small (by omega) (by omega)) hK8 hW8 hlb).mono ?_); rintro e w6 ⟨rfl, g6, hI6, m6⟩; have k7 := (T5.out.2.1.swap.mv m6).swap.cells; have T7 := Lib.hid (And.intro (T5.out.1.swap.mv hI6 m6 (Nat.le_refl _) hlb').swap (T5.out.2.2.swap.mv m6).swap); clear hI6 m6)
              | (go_at_call 14; (with_reducible refine (advance_q pb bb gb KK W (2 * i) sb _ now sb' vv (HT.out.below (b_drew (Below.refl _ _))).swap.iqu HS.out.2.1 HS.out.2.2.2.1 (i64_small (by omega) (by omega)) hK8 hW8 hlb).mono ?_); rintro e w6 ⟨rfl, g6, hI6, m6⟩; have k6 := ((HA.out.below (b_drew (Below.refl _ _))).swap.mv m6).swap.cells; have T6 := Lib.hid (And.intro ((HT.out.below (b_drew (Below.refl _ _))).swap.mv hI6 m6 (Nat.le_refl _) hlb').swap (And.intro ((HA.out.below (b_drew (Below.refl _ _))).swap.mv m6).swap ((HR.out.below (b_drew (Below.refl _ _))).swap.mv m6).swap)); clear hI6 m6))
            all_goals
              have qv : (vv != vv) = false := by simp
              go_wp2
              go_roundw
              case rel => exact ⟨i + 1, g5, g6, sa', sb', by omega, by go_num, Lib.hid ⟨T7.out.1.up (by omega), HS.out.2.2.2.2, T7.out.2⟩⟩
              case measure => simp [intOf]; omega
    · obtain rfl : i = m := by omega
      have d1 : decide (i < i) = false := by simp
      clear d1
      have HT := Lib.hid HL.out.1
      have HI := Lib.hid HL.out.2.1
      have hla := HL.out.1.len
      obtain ⟨N, hN⟩ : ∃ N, sa.2.length = N := ⟨_, rfl⟩
      have HN := Lib.hid (And.intro hN (HI.out.len.symm.trans hN))
      rw [hN] at hla
      clear hN HL
      go_wp2_with fail
      refine (next_any pa ba _ _ W _ sa.1 sa.2 _ HT.out.iqu).mono ?_
      rintro e w_ ⟨rfl, rfl⟩
      go_wp2_with fail
      refine (next_any pb bb _ _ W _ sb.1 sb.2 _ HT.out.swap.iqu).mono ?_
      rintro e w_ ⟨rfl, rfl⟩
      rw [HN.out.1, HN.out.2]
      go_wp2
      go_loopw [20] (fun s20 wr2 => ∃ t : Nat, t ≤ N ∧ s20 = .int .i64 t ∧ Below wo.heap.size wo wr2) (fun i _ => N - (intOf i).toNat)
      case atStart => exact ⟨0, by omega, rfl, Below.refl _ _⟩
      case round =>
        obtain ⟨t, ht, rfl, hBt⟩ := hrel
        obtain ⟨wp, rfl⟩ : ∃ wp : World, wp = wr := ⟨_, rfl⟩
        have HTt := Lib.hid (HT.out.below hBt)
        go_wp2_with fail
        refine (next_any pa ba _ _ W _ sa.1 sa.2 _ HTt.out.iqu).mono ?_
        rintro e w_ ⟨rfl, rfl⟩
        rw [HN.out.1]
        by_cases htl : t < N
        · have d4 : decide (t < N) = true := decide_eq_true htl
          obtain ⟨r, hr⟩ : ∃ r, sa.2[t]? = some r := ⟨_, List.getElem?_eq_getElem (by rw [HN.out.1]; exact htl)⟩
          obtain ⟨r', hr'⟩ : ∃ r, sb.2[t]? = some r := ⟨_, List.getElem?_eq_getElem (by rw [HN.out.2]; exact htl)⟩
          have HR := Lib.hid (And.intro hr (And.intro hr' (HI.out.rows t r r' hr hr')))
          clear hr hr'
          go_wp2_with fail
          refine (fixed_q pa ba _ KK W _ sa _ t r _ _ HTt.out.iqu HR.out.1 rfl rfl hK8 (by rw [HN.out.1]; omega)).mono ?_
          rintro e w7 ⟨A3, c3, A4, c4, rfl, o3, o4, hb7⟩
          have O3 := Lib.hid (rd_own o3)
          clear o3 o4
          go_wp2_with fail
          refine (fixed_q pb bb _ KK W _ sb _ t r' _ _ (HTt.out.below hb7).swap.iqu HR.out.2.1 rfl rfl hK8 (by rw [HN.out.2]; omega)).mono ?_
          rintro e w8 ⟨A5, c5, A6, c6, rfl, o5, o6, hb8⟩
          have O3' := Lib.hid (rd_step O3.out hb8)
          have O5 := Lib.hid (rd_own o5)
          have hB8 := b_call (b_call hBt hb7) hb8
          clear o5 o6 hb7 hb8
          go_wp2
          go_loopw [27] (fun s27 wr3 => ∃ q : Nat, q ≤ KK ∧ s27 = .int .i64 q ∧ Below w8.heap.size w8 wr3) (fun i _ => KK - (intOf i).toNat)
          case atStart => exact ⟨0, by omega, rfl, Below.refl _ _⟩
          case round =>
            obtain ⟨q, hq, rfl, hBq⟩ := hrel
            by_cases hql : q < KK
            · have d5 : decide (q < KK) = true := decide_eq_true hql
              obtain ⟨b6, o6, hl6, rfl, hb6, i0, i1, i2⟩ := (O3'.out.below hBq (Nat.le_refl _)).openRow (k := q) hql
              obtain ⟨b7, o7, hl7, rfl, hb7, j0, j1, j2⟩ := (O5.out.below hBq (Nat.le_refl _)).openRow (k := q) hql
              rw [firstI_get] at i0 i1 i2 j0 j1 j2
              by_cases hqP : q = P
              · have q1 : ((q : Int) != (P : Int)) = false := by rw [hqP]; simp
                clear hqP
                go_wp2_with fail
                go_quiet (fail)
                go_wp2
                go_roundw
                case rel => exact ⟨q + 1, by omega, by go_num, below_drewN hBq _⟩
                case measure => simp [intOf]; omega
              · have q1 : ((q : Int) != (P : Int)) = true := by rw [bne_iff_ne]; omega
                have EV := Lib.hid (HR.out.2.2 q hqP)
                obtain ⟨⟨v1, v2, v3⟩, hv⟩ : ∃ v, r.1 q = v := ⟨_, rfl⟩
                rw [← EV.out, hv] at j0 j1 j2
                rw [hv] at i0 i1 i2
                have n1 := fun W => run_neq3 v1 v2 v3 v1 v2 v3 W
                rw [show eqInp (v1, v2, v3) (v1, v2, v3) = true from eqInp_self _] at n1
                clear hqP hv EV
                go_wp2_with fail
                go_quiet (fail)
                go_wp2
                go_roundw
                case rel => exact ⟨q + 1, by omega, by go_num, below_drewN hBq _⟩
                case measure => simp [intOf]; omega
            · have d5 : decide (q < KK) = false := decide_eq_false hql
              go_wp2
              go_roundw
              case rel => exact ⟨t + 1, by omega, by go_num, b_call hB8 hBq⟩
              case measure => simp [intOf]; omega
        · have d4 : decide (t < N) = false := decide_eq_false htl
          go_wp2_with fail
          refine (lives_any _).mono ?_
          rintro e w9 ⟨rfl, hb9⟩
          go_wp2
          go_ret
          exact ⟨rfl, b_call (b_call HT.out.bel hBt) hb9⟩
end Go.Proofs.Ytdjmaljldajpiaa
