/-
  WHAT IS PROVED HERE: the walk of the law InputqueueCounts: it returns true at every input, and leaves old memory as it was. Conditions: the arguments' lengths are a machine's.
-/
import Derived.Test.YtdjmaljldajpiaaIqC1
import Derived.Test.YtdjmaljldajpiaaMake
import Derived.Test.YtdjmaljldajpiaaStep
import Derived.Deep.DeepCutAuto
namespace Go.Proofs.Ytdjmaljldajpiaa
set_option linter.unusedVariables false
open Go.ChangeShapes Go.WideShapes Go.ChangeAt Go.RowKit
open Go.Maps (Keyed)

set_option maxRecDepth 100000 in
set_option maxHeartbeats 8000000 in
theorem counts_walk (a c : Int) (A : Option Addr) (n0 c0 : Nat) (l : List Int) (w : World) (ha : I64 a) (hc : I64 c)
    (nc : n0 ≤ c0) (cm : c0 ≤ maxLen) (ln : l.length = n0) (rd : Rd w w.heap.size 1 A n0 (l.map (Value.int .i64))) (wf : ∀ x ∈ l, (Lit.int .i64 x).wf = true) :
    Calls Try.prog 6 #[.int .i64 a, .int .i64 c, .slice A n0 c0] w fun e w' => e = .returned (.bool true) ∧ Below w.heap.size w w' := by
  have RD := Lib.hid rd
  have H64 := Lib.hid (fun x hx => bounds_i64 (wf x hx))
  have hn : n0 ≤ 9223372036854775807 := by unfold maxLen at cm; omega
  have LN := Lib.hid ln
  obtain ⟨KK, hK, hK1, hK8⟩ := kay_nat a
  have HK := Lib.hid hK
  have hkb := around_bd a 8 (by omega)
  obtain ⟨W, hW, hW8⟩ := wait_nat c
  have HW := Lib.hid hW
  unfold I64 at ha hc
  obtain ⟨ha1, ha2⟩ := ha
  obtain ⟨hc1, hc2⟩ := hc
  obtain ⟨m, hm⟩ : ∃ m, min n0 40 = m := ⟨_, rfl⟩
  have hm40 : m ≤ 40 := by omega
  have HM := Lib.hid hm
  clear rd wf nc cm ln hK hW hm
  go_enter Try.func6, Try.ntmps6
  go_wp2_with fail
  refine (around_any a 8 _ ha1 ha2 (by omega) (by omega)).mono ?_
  rintro e w_ ⟨rfl, rfl⟩
  go_wp2_with fail
  refine (around_any c 9 _ hc1 hc2 (by omega) (by omega)).mono ?_
  rintro e w_ ⟨rfl, rfl⟩
  rw [HK.out, HW.out]
  go_wp2_with fail
  refine (new_q KK W _ hK1 hK8 hW8).mono ?_
  rintro e w1 ⟨p, b, rfl, hI1, hF1, hb1⟩
  have H1 := Lib.hid (And.intro hI1 hF1)
  clear hI1 hF1 hkb
  go_wp2_with fail
  refine (acts_any A n0 c0 l (KK : Int) _ (by omega) (by omega) LN.out (rd_step RD.out hb1) H64.out hn).mono ?_
  rintro e w2 ⟨A1, c1, rfl, o1, hb2⟩
  rw [HM.out] at o1 ⊢
  have RA := Lib.hid (OwnA.new H1.out.1 o1).rd
  have L2 := Lib.hid (show LQ w2 w2 p b none KK W 0 s0 from ⟨⟨0, Nat.le_refl _, H1.out.1.below hb2⟩, by decide, Mv.refl _ _ _ _⟩)
  have HB2 := Lib.hid (b_call hb1 hb2)
  have HF2 := Lib.hid (show ∀ j, Foot p b none j → w.heap.size ≤ j from H1.out.2)
  clear o1 hb1 hb2 H1 RD H64 LN HM HK HW
  go_wp2
  go_loopw [10, 11] (fun s10 s11 wr => ∃ (i : Nat) (g : Option Nat) (s : QS) (H : List Act) (A2 : Option Addr) (c2 : Nat), i ≤ m ∧ H.length ≤ i ∧ s11 = .int .i64 i ∧ s10 = .slice A2 H.length c2 ∧ Hid (LQ w2 wr p b g KK W i s) ∧ Hid (OwnA wr p b g w2.heap.size 36 7 (.slice A2 H.length c2) H.length (H.flatMap actC)) ∧ Hid (Cnt KK H s)) (fun _ i _ => m - (intOf i).toNat)
  case atStart => exact ⟨0, none, s0, [], none, 0, by omega, Nat.le_refl _, rfl, rfl, L2, Lib.hid (OwnA.nil _ _ _ _ _ _ _), Lib.hid (Cnt.start _)⟩
  case round =>
    obtain ⟨i, g, s, H, A2, c2, hi, hHi, rfl, rfl, HL, HO, HC⟩ := hrel
    obtain ⟨wo, rfl⟩ : ∃ wo : World, wo = wr := ⟨_, rfl⟩
    obtain ⟨h, hh⟩ : ∃ h, H.length = h := ⟨_, rfl⟩
    have HH := Lib.hid hh
    rw [hh] at HO hHi ⊢
    clear hh
    by_cases hlt : i < m
    · have d1 : decide (i < m) = true := decide_eq_true hlt
      obtain ⟨b0, o0, rfl, hb0, c0', c1', c2', c3', c4', c5', c6'⟩ := (RA.out.mv HL.out.mv).openAct (i := i) hlt
      obtain ⟨d, now, pl, tk, x, y, z, hact, hd, ⟨hn1, hn2⟩, hp, ht⟩ := act_letters l (k := KK) (by omega) (by omega) (i := i) (by omega)
      rw [hact] at c0' c1' c2' c3' c4' c5' c6'
      clear hact
      have hlb := HL.out.len
      rcases hd with rfl | rfl
      · obtain ⟨E, hE⟩ : ∃ E, offerE KK s.2.length s.1 now pl tk (x, y, z) = E := ⟨_, rfl⟩
        have HE := Lib.hid hE
        clear hE
        go_wp2_with fail
        refine (offer_q p b g KK W i s _ now pl tk x y z _ E (HL.out.iqu.below (b_alloc (Below.refl _ _) _)) rfl HE.out (i64_small (by omega) (by omega)) (i64_small (by omega) (by omega)) (i64_small (by omega) (by omega)) (by omega) hlb (by omega)).mono ?_
        rintro e w3 ⟨rfl, hI3, m3⟩
        have H3 := Lib.hid ((HL.out.below (b_alloc (Below.refl _ _) _)).next hI3 m3 (by rw [offS_rows]; exact hlb))
        have V3 := Lib.hid (show Vr w3 wo.heap.size 36 #[.int .i64 0, .int .i64 now, .int .i64 pl, .int .i64 tk, .int .i64 x, .int .i64 y, .int .i64 z] from (Vr.new wo _ _).same (m3.away (Vr.new wo 36 #[.int .i64 0, .int .i64 now, .int .i64 pl, .int .i64 tk, .int .i64 x, .int .i64 y, .int .i64 z]).lt (fun h => by have := HL.out.iqu.lt _ h; omega)).1)
        have O3 := Lib.hid ((HO.out.below (b_alloc (Below.refl _ _) _)).mv m3)
        clear hI3 m3
        by_cases hE0 : E = 0
        · have q0 : (E == 0) = true := by rw [beq_iff_eq]; exact hE0
          have HC2 := Lib.hid (HC.out.accept (a := ⟨0, now, pl, tk, (x, y, z)⟩) (now := now) (by rw [← hE0]; exact HE.out))
          clear hE0
          obtain ⟨v1, v2, v3⟩ := V3.out.facts
          have hz3 := H3.out.mv.size
          go_wp2_with (at_builtin; refine wpList_app _ rfl (.tmp 62) (.tmp 64) slActs rfl rfl (O3.out.1.alloc _) rfl (rd_lit _ _ _ rfl rfl) (by intro u hu; simp at hu; rcases hu with h | h | h | h | h | h | h <;> (subst h; rfl)) (h + 1) rfl (by unfold maxLen; omega) (by omega) (by simp; omega) ?_; intro A5 c5 Y3 g1 g2 g3 g4 g5)
          have O4 := O3.out.below (b_alloc (Below.refl _ _) (Obj.cells #[.int .i64 0, .int .i64 now, .int .i64 pl, .int .i64 tk, .int .i64 x, .int .i64 y, .int .i64 z] 36))
          have L4 := H3.out.below (b_alloc (Below.refl _ _) (Obj.cells #[.int .i64 0, .int .i64 now, .int .i64 pl, .int .i64 tk, .int .i64 x, .int .i64 y, .int .i64 z] 36))
          have H4 := Lib.hid (L4.app O4 g4)
          have O5 := Lib.hid (L4.own O4 g3 g5)
          clear g1 g2 g3 g4 g5 O4 L4
          go_roundw
          case rel => exact ⟨i + 1, g, _, H ++ [⟨0, now, pl, tk, (x, y, z)⟩], A5, c5, by omega, by rw [List.length_append, HH.out]; simp; omega, by go_num, by rw [List.length_append, HH.out]; rfl, H4, by rw [List.length_append, HH.out, List.flatMap_append]; exact O5, HC2⟩
          case measure => simp [intOf]; omega
        · have q0 : (E == 0) = false := by rw [beq_eq_false_iff_ne]; exact hE0
          have HC2 := Lib.hid (HC.out.refuse (now := now) (pl := pl) (tk := tk) (x := (x, y, z)) (by rw [HE.out]; exact hE0))
          clear hE0
          go_wp2
          go_roundw
          case rel => exact ⟨i + 1, g, _, H, A2, c2, by omega, by rw [HH.out]; omega, by go_num, by rw [HH.out], H3, by rw [HH.out]; exact O3, HC2⟩
          case measure => simp [intOf]; omega
      · obtain ⟨s', hs'⟩ : ∃ s', adv KK W now s = s' := ⟨_, rfl⟩
        have hmono := adv_len (k := KK) (wt := W) (now := now) s (by omega)
        have HC2 := HC.out.adv (wt := W) (now := now)
        rw [hs'] at hmono HC2
        have HC2 := Lib.hid HC2
        have HS' := Lib.hid hs'
        clear hs'
        go_wp2_with fail
        refine (advance_q p b g KK W i s _ now s' _ (HL.out.iqu.below (b_alloc (Below.refl _ _) _)) HS'.out rfl (i64_small (by omega) (by omega)) (by omega) (by omega) hlb).mono ?_
        rintro e w4 ⟨rfl, g4, hI4, m4⟩
        have H4 := Lib.hid (((HL.out.below (b_alloc (Below.refl _ _) _)).same hI4 m4 hmono.2).up (Nat.le_succ i))
        have O4 := Lib.hid ((HO.out.below (b_alloc (Below.refl _ _) _)).mv m4)
        clear hI4 m4
        go_wp2
        go_roundw
        case rel => exact ⟨i + 1, g4, s', H, A2, c2, by omega, by rw [HH.out]; omega, by go_num, by rw [HH.out], H4, by rw [HH.out]; exact O4, HC2⟩
        case measure => simp [intOf]; omega
    · obtain rfl : i = m := by omega
      have d1 : decide (i < i) = false := by simp
      clear d1
      have hmk : ∀ W', (Instr.makeSlice 49 (.int .i64 8) (.int .i64 8)).run Try.prog W' = .ok (.slice (some ⟨W'.heap.size, 0, none⟩) 8 8) (W'.alloc (.cells (flatF zrow.1).toArray 34)) := fun W' => by kernel_rfl
      obtain ⟨N, hN⟩ : ∃ N, s.2.length = N := ⟨_, rfl⟩
      have HN := Lib.hid hN
      have hlN := HL.out.len
      rw [hN] at hlN
      clear hN
      go_wp2
      refine name_world ?_
      intro Y hY
      have hBY : Below wo.heap.size wo Y := by rw [hY]; (repeat (first | (with_reducible exact Below.refl _ _) | (with_reducible assumption) | (with_reducible refine b_drew ?_) | (with_reducible refine b_drewN ?_ _) | (with_reducible refine b_alloc ?_ _) | ((with_reducible refine b_set ?_ ?_ _); rotate_left; (focus (first | omega | (simp; done) | (simp; omega) | (simp at *; omega)))) | (with_reducible refine b_call ?_ (by with_reducible assumption))))
      have VY := Lib.hid (show Vr Y wo.heap.size 34 (flatF zrow.1).toArray from by rw [hY]; exact Vr.new wo _ _)
      clear hY hmk
      have HLY := Lib.hid (HL.out.below hBY)
      have OY := Lib.hid (HO.out.below hBY)
      have HFG := Lib.hid (show ∀ j, Foot p b g j → ¬ j = wo.heap.size from fun j hj => by have := HL.out.iqu.lt j hj; omega)
      have HOG := Lib.hid (show ∀ j, (Value.slice A2 h c2).ownBlock = some j → ¬ j = wo.heap.size from fun j hj => by have := (HO.out.1.lt j hj).2; omega)
      have hglt := VY.out.lt
      have HBY := Lib.hid hBY
      clear hBY
      go_loopw [14] (fun s14 wr2 => ∃ (t : Nat) (f : Nat → Inp), t ≤ N ∧ s14 = .int .i64 t ∧ Hid (Vr wr2 wo.heap.size 34 (flatF f).toArray ∧ ∀ q, q < KK → f q = (prevRow s.2 t).1 q) ∧ Only (· = wo.heap.size) Y wr2) (fun i _ => N - (intOf i).toNat)
      case atStart => exact ⟨0, zrow.1, by omega, rfl, Lib.hid ⟨VY.out, fun q _ => rfl⟩, Only.refl _ _⟩
      case round =>
        obtain ⟨t, f, ht, rfl, HV, hO⟩ := hrel
        obtain ⟨wp, rfl⟩ : ∃ wp : World, wp = wr := ⟨_, rfl⟩
        have HI := Lib.hid (HLY.out.iqu.only hO HFG.out)
        have hzp := hO.size
        go_wp2_with fail
        refine (next_any p b g _ W i s.1 s.2 _ HI.out).mono ?_
        rintro e w_ ⟨rfl, rfl⟩
        rw [HN.out]
        by_cases htl : t < N
        · have d4 : decide (t < N) = true := decide_eq_true htl
          obtain ⟨r, hr⟩ : ∃ r, s.2[t]? = some r := ⟨_, List.getElem?_eq_getElem (by rw [HN.out]; exact htl)⟩
          have HR := Lib.hid hr
          have HRW := Lib.hid (HC.out.rows t r hr)
          have HPR := Lib.hid (show prevRow s.2 (t + 1) = r from by
            unfold prevRow lastRow
            rw [List.getLast?_eq_getElem?]
            have : (s.2.take (t + 1)).length = t + 1 := by rw [List.length_take, HN.out]; omega
            rw [this, Nat.add_sub_cancel, List.getElem?_take, if_pos (by omega), hr]
            rfl)
          clear hr
          go_wp2_with fail
          refine (fixed_q p b g _ W i s _ t r _ _ HI.out HR.out rfl rfl hK8 (by rw [HN.out]; omega)).mono ?_
          rintro e w7 ⟨A3, c3, A4, c4, rfl, o3, o4, hb7⟩
          have O3 := Lib.hid o3
          have O4 := Lib.hid o4
          have h7 : Only (· = wo.heap.size) Y w7 := hO.step (Only.of_below hb7 (fun j => wp.heap.size ≤ j) (fun j h _ => h)) (fun j hj h => by omega)
          have V7 := Lib.hid (And.intro (HV.out.1.call hb7) HV.out.2)
          have hz7 := hb7.size
          clear o3 o4 hb7
          go_wp2
          go_loopw [18] (fun s18 wr3 => ∃ (q : Nat) (f' : Nat → Inp), q ≤ KK ∧ s18 = .int .i64 q ∧ Hid (Vr wr3 wo.heap.size 34 (flatF f').toArray ∧ ∀ j, j < KK → f' j = if j < q then r.1 j else (prevRow s.2 t).1 j) ∧ Only (· = wo.heap.size) w7 wr3) (fun i _ => KK - (intOf i).toNat)
          case atStart => exact ⟨0, f, by omega, rfl, Lib.hid ⟨V7.out.1, fun j hj => by rw [if_neg (by omega)]; exact V7.out.2 j hj⟩, Only.refl _ _⟩
          case round =>
            obtain ⟨q, f', hq, rfl, HF, hO3⟩ := hrel
            obtain ⟨wq, rfl⟩ : ∃ wq : World, wq = wr := ⟨_, rfl⟩
            by_cases hql : q < KK
            · have d5 : decide (q < KK) = true := decide_eq_true hql
              obtain ⟨⟨a1, a2, a3⟩, hv⟩ : ∃ v, f' q = v := ⟨_, rfl⟩
              have e0 : wq.cell? ⟨wo.heap.size, q * 3, none⟩ = some (.int .i64 a1) := by rw [HF.out.1.cell, List.getElem?_toArray]; have := flatF_get f' (i := q) (j := 0) (by omega) (by omega); rw [hv] at this; exact this
              have e1 : wq.cell? ⟨wo.heap.size, q * 3 + 1, none⟩ = some (.int .i64 a2) := by rw [HF.out.1.cell, List.getElem?_toArray]; have := flatF_get f' (i := q) (j := 1) (by omega) (by omega); rw [hv] at this; exact this
              have e2 : wq.cell? ⟨wo.heap.size, q * 3 + 2, none⟩ = some (.int .i64 a3) := by rw [HF.out.1.cell, List.getElem?_toArray]; have := flatF_get f' (i := q) (j := 2) (by omega) (by omega); rw [hv] at this; exact this
              have HPV := Lib.hid (show (prevRow s.2 t).1 q = (a1, a2, a3) from by
                have := HF.out.2 q hql
                rw [if_neg (Nat.lt_irrefl q), hv] at this
                exact this.symm)
              clear hv
              go_wp2_with fail
              refine (predict3 _ _ _ _).mono ?_
              rintro e w8 ⟨rfl, hb8⟩
              have F8 := Lib.hid (And.intro (HF.out.1.call hb8) HF.out.2)
              have O8 : Only (· = wo.heap.size) w7 w8 := hO3.step (Only.of_below hb8 (fun j => wq.heap.size ≤ j) (fun j h _ => h)) (fun j hj h => by have := hO3.size; omega)
              clear e0 e1 e2 hb8
              have hz8 := O8.size
              go_wp2
              refine name_world ?_
              intro X hX
              have hBX : Below w8.heap.size w8 X := by rw [hX]; (repeat (first | (with_reducible exact Below.refl _ _) | (with_reducible assumption) | (with_reducible refine b_drew ?_) | (with_reducible refine b_drewN ?_ _) | (with_reducible refine b_alloc ?_ _) | ((with_reducible refine b_set ?_ ?_ _); rotate_left; (focus (first | omega | (simp; done) | (simp; omega) | (simp at *; omega)))) | (with_reducible refine b_call ?_ (by with_reducible assumption))))
              have VW := Lib.hid (show Vr X w8.heap.size 34 #[.int .i64 a1, .int .i64 a2, .int .i64 0] from by rw [hX]; exact Vr.new w8 _ _)
              clear hX
              have OX := Lib.hid (own_below (own_only (own_only OY.out.1 h7 HOG.out) O8 HOG.out) hBX)
              have OXG := Lib.hid (show ∀ j, (Value.slice A2 h c2).ownBlock = some j → ¬ j = w8.heap.size from fun j hj => by have := (own_only (own_only OY.out.1 h7 HOG.out) O8 HOG.out).lt j hj; omega)
              have O3X := Lib.hid (own_below (own_only O3.out O8 (fun j hj => by have := (O3.out.lt j hj).1; omega)) hBX)
              have O3G := Lib.hid (show ∀ j, (Value.slice A3 KK c3).ownBlock = some j → ¬ j = w8.heap.size from fun j hj => by have := (O3.out.lt j hj).2; omega)
              have O4X := Lib.hid (own_below (own_only O4.out O8 (fun j hj => by have := (O4.out.lt j hj).1; omega)) hBX)
              have O4G := Lib.hid (show ∀ j, (Value.slice A4 KK c4).ownBlock = some j → ¬ j = w8.heap.size from fun j hj => by have := (O4.out.lt j hj).2; omega)
              have FX := Lib.hid (F8.out.1.call hBX)
              have OXX : Only (· = wo.heap.size) w7 X := O8.step (Only.of_below hBX (fun j => w8.heap.size ≤ j) (fun j h _ => h)) (fun j hj h => by omega)
              have hzX := VW.out.lt
              go_loopw [20, 21] (fun s20 s21 wr4 => ∃ (j : Nat) (gv : Bool) (v1 v2 v3 : Int), j ≤ h ∧ s21 = .int .i64 j ∧ s20 = .bool gv ∧ Hid (gv = (lookTo H j t q).isSome ∧ (v1, v2, v3) = (lookTo H j t q).getD (a1, a2, 0) ∧ Vr wr4 w8.heap.size 34 #[.int .i64 v1, .int .i64 v2, .int .i64 v3]) ∧ Only (· = w8.heap.size) X wr4) (fun _ i _ => h - (intOf i).toNat)
              case atStart => exact ⟨0, false, a1, a2, 0, by omega, rfl, rfl, Lib.hid ⟨rfl, rfl, VW.out⟩, Only.refl _ _⟩
              case round =>
                obtain ⟨j, gv, v1, v2, v3, hj, rfl, rfl, HW, hO4⟩ := hrel
                by_cases hjl : j < h
                · have d6 : decide (j < h) = true := decide_eq_true hjl
                  obtain ⟨b5, o5, hl5, rfl, hb5, z2, z3, z4, z5, z6⟩ := (rd_own (own_only OX.out hO4 OXG.out)).openActL hjl
                  obtain ⟨⟨d', n', pl', tk', x1, x2, x3⟩, ha⟩ : ∃ a, H[j] = a := ⟨_, rfl⟩
                  have LS := Lib.hid (lookTo_succ hl5 t q)
                  rw [ha] at z2 z3 z4 z5 z6 LS
                  clear ha
                  obtain ⟨w1', w2', w3'⟩ := HW.out.2.2.facts
                  by_cases c1 : pl' = (q : Int)
                  · by_cases c2 : tk' = (t : Int)
                    · have E1 := Lib.hid (LS.out.trans (if_pos ⟨c1, c2⟩))
                      have q1 : (pl' == (q : Int)) = true := by rw [beq_iff_eq]; exact c1
                      have q2 : (tk' == (t : Int)) = true := by rw [beq_iff_eq]; exact c2
                      clear c1 c2
                      go_wp2
                      go_roundw
                      case rel => exact ⟨j + 1, true, x1, x2, x3, by omega, by go_num, rfl, Lib.hid ⟨by rw [E1.out]; rfl, by rw [E1.out]; rfl, by have := ((HW.out.2.2.set 0 (.int .i64 x1)).set 1 (.int .i64 x2)).set 2 (.int .i64 x3); simpa using this⟩, ((hO4.setCell (.inl rfl) _).setCell (.inl rfl) _).setCell (.inl rfl) _⟩
                      case measure => simp [intOf]; omega
                    · have E1 := Lib.hid (LS.out.trans (if_neg (fun h => c2 h.2)))
                      have q1 : (pl' == (q : Int)) = true := by rw [beq_iff_eq]; exact c1
                      have q2 : (tk' == (t : Int)) = false := by rw [beq_eq_false_iff_ne]; exact c2
                      clear c1 c2
                      go_wp2
                      go_roundw
                      case rel => exact ⟨j + 1, gv, v1, v2, v3, by omega, by go_num, rfl, Lib.hid (by rw [E1.out]; exact HW.out), hO4⟩
                      case measure => simp [intOf]; omega
                  · have E1 := Lib.hid (LS.out.trans (if_neg (fun h => c1 h.1)))
                    have q1 : (pl' == (q : Int)) = false := by rw [beq_eq_false_iff_ne]; exact c1
                    clear c1
                    go_wp2
                    go_roundw
                    case rel => exact ⟨j + 1, gv, v1, v2, v3, by omega, by go_num, rfl, Lib.hid (by rw [E1.out]; exact HW.out), hO4⟩
                    case measure => simp [intOf]; omega
                · have d6 : decide (j < h) = false := decide_eq_false hjl
                  obtain ⟨wz, rfl⟩ : ∃ wz : World, wz = wr := ⟨_, rfl⟩
                  have hjh : j = h := by omega
                  have EL := Lib.hid (show lookTo H j t q = look H t q from by rw [hjh, ← HH.out]; exact lookTo_all H t q)
                  have EV := Lib.hid (show r.1 q = (v1, v2, v3) from by
                    rw [(HRW.out q hql).1, want_eq, HPV.out, HW.out.2.1, EL.out]
                    rfl)
                  have EM := Lib.hid (show r.2 q = !gv from by
                    rw [(HRW.out q hql).2, HW.out.1, EL.out]
                    cases look H t q <;> rfl)
                  clear hjh
                  obtain ⟨b6, o6, hl6, rfl, hb6, i0, i1, i2⟩ := (rd_own (own_only O3X.out hO4 O3G.out)).openRow (k := q) hql
                  obtain ⟨b7, o7, hl7, rfl, hb7, m0⟩ := (rd_own (own_only O4X.out hO4 O4G.out)).openMap (k := q) hql
                  rw [firstI_get, EV.out] at i0 i1 i2
                  rw [firstB_get, EM.out] at m0
                  have n1 := fun W => run_neq3 v1 v2 v3 v1 v2 v3 W
                  rw [show eqInp (v1, v2, v3) (v1, v2, v3) = true from eqInp_self _] at n1
                  obtain ⟨w1', w2', w3'⟩ := HW.out.2.2.facts
                  have hFz := FX.out.only hO4 (by omega)
                  have HFz := Lib.hid hFz
                  have g0 : wz.cell? ⟨wo.heap.size, q * 3, none⟩ = some (.int .i64 (f' q).1) := by rw [hFz.cell, List.getElem?_toArray]; exact flatF_get f' (i := q) (j := 0) (by omega) (by omega)
                  have g1 : wz.cell? ⟨wo.heap.size, q * 3 + 1, none⟩ = some (.int .i64 (f' q).2.1) := by rw [hFz.cell, List.getElem?_toArray]; exact flatF_get f' (i := q) (j := 1) (by omega) (by omega)
                  have g2 : wz.cell? ⟨wo.heap.size, q * 3 + 2, none⟩ = some (.int .i64 (f' q).2.2) := by rw [hFz.cell, List.getElem?_toArray]; exact flatF_get f' (i := q) (j := 2) (by omega) (by omega)
                  have hlz := hFz.lt
                  have hfz := hFz.frozen
                  have OZ : Only (· = wo.heap.size) w7 wz := OXX.step hO4 (fun j hj h => by omega)
                  have EF := Lib.hid (flatF_set f' (i := q) (by omega) (v1, v2, v3))
                  generalize (f' q).1 = y0 at g0
                  generalize (f' q).2.1 = y1 at g1
                  generalize (f' q).2.2 = y2 at g2
                  clear hFz
                  rcases gv with _ | _
                  all_goals
                    go_wp2_with fail
                    go_quiet (fail)
                    go_wp2
                    go_roundw
                    case rel => exact ⟨q + 1, fun j => if j = q then (v1, v2, v3) else f' j, by omega, by go_num, Lib.hid ⟨by rw [← EF.out]; have := (((HFz.out.drewN nq).set (q * 3) (.int .i64 v1)).set (q * 3 + 1) (.int .i64 v2)).set (q * 3 + 2) (.int .i64 v3); simpa using this, fun j hj => by
                      show (if j = q then (v1, v2, v3) else f' j) = _
                      by_cases hc : j = q
                      · subst hc
                        rw [if_pos rfl, if_pos (by omega), EV.out]
                      · rw [if_neg hc, HF.out.2 j hj]
                        by_cases h1 : j < q
                        · rw [if_pos h1, if_pos (by omega)]
                        · rw [if_neg h1, if_neg (by omega)]⟩, (((OZ.drewN nq).setCell (.inl rfl) _).setCell (.inl rfl) _).setCell (.inl rfl) _⟩
                    case measure => simp [intOf]; omega
            · have d5 : decide (q < KK) = false := decide_eq_false hql
              go_wp2
              go_roundw
              case rel => exact ⟨t + 1, f', by omega, by go_num, Lib.hid ⟨HF.out.1, fun j hj => by rw [HPR.out, HF.out.2 j hj, if_pos (by omega)]⟩, h7.trans hO3⟩
              case measure => simp [intOf]; omega
        · have d4 : decide (t < N) = false := decide_eq_false htl
          have HB := Lib.hid ((HL.out.mv.belowB HB2.out.size HF2.out).1)
          have HBP := Lib.hid (HBY.out.trans (Below.mono (hO.below (B := wo.heap.size) (Nat.le_of_lt hglt) (by rintro j rfl; exact Nat.le_refl _)) (Nat.le_refl _)))
          go_wp2_with fail
          refine (lives_any _).mono ?_
          rintro e w9 ⟨rfl, hb9⟩
          go_wp2
          go_ret
          exact ⟨rfl, b_call ((HB2.out.trans HB.out).trans (HBP.out.mono (Nat.le_trans HB2.out.size HB.out.size))) hb9⟩
end Go.Proofs.Ytdjmaljldajpiaa
