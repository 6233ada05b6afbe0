/-
  WHAT IS PROVED HERE: the walk of the law JournalOwn: it returns true at every input and leaves old memory as it was. Conditions: the argument's length is a machine's.
-/
import Derived.Test.YtmoajnekegbncaaJnO
namespace Go.Proofs.Ytmoajnekegbncaa
set_option linter.unusedVariables false
open Go.ChangeShapes Go.WideShapes Go.ChangeAt Go.RowKit

/-- a slice of bytes of one's own, whatever they are; nil too -/
def OwnS (w : World) (base : Nat) (A : Option Addr) (n c : Nat) : Prop := ∃ y : List Int, w.ownsRow base 5 1 (.slice A n c) n (y.map (Value.int .u8))
theorem OwnS.cell {w : World} {base n c k : Nat} {A : Option Addr} (h : OwnS w base A n c) (hk : k < n) : ∃ g u, A = some ⟨g, 0, none⟩ ∧ base ≤ g ∧ w.cell? ⟨g, k, none⟩ = some u ∧ w.frozen? ⟨g, k, none⟩ = false ∧ g < w.heap.size ∧ ∃ cur, w.heap[g]? = some (.cells cur 5 (0, 0)) := by
  obtain ⟨y, h⟩ := h
  obtain ⟨g, cur, e, hg, V, _, _, _⟩ := own_open h (by omega)
  subst e
  obtain ⟨b, o, hl, e, _, hc⟩ := (rd_own h).openMap hk
  injection e with e
  injection e with e1 e2
  subst e1 e2
  rw [Nat.zero_add] at hc
  exact ⟨g, _, rfl, hg, hc, V.frozen k, V.lt, cur, V⟩
theorem OwnS.set {w : World} {base n c : Nat} {A : Option Addr} (h : OwnS w base A n c) (b k : Nat) (u : Int) : OwnS (w.setCell ⟨b, k, none⟩ (.int .u8 u)) base A n c := by
  obtain ⟨y, h⟩ := h
  rcases hA : (Value.slice A n c).ownBlock with _ | g
  · exact ⟨y, own_same' h fun j hj => by rw [hA] at hj; cases hj⟩
  · by_cases hg : g = b
    · subst hg
      rcases h.2 with ⟨h2, _⟩ | ⟨g', cap, cur, h2, _⟩
      · rw [h2] at hA
        cases hA
      · injection h2 with e1 e2 e3
        subst e1
        have e4 : g' = g := by simpa [Value.ownBlock] using hA
        subst e4
        exact ⟨y.set k u, by rw [← map_set_u8]; exact own_set h k _⟩
    · exact ⟨y, own_same' h fun j hj => Below.heap_setCell _ _ _ _ (by rw [hA] at hj; injection hj with hj; rw [← hj]; exact hg)⟩
theorem OwnS.below {w w' : World} {base n c : Nat} {A : Option Addr} (h : OwnS w base A n c) (hb : Below w.heap.size w w') : OwnS w' base A n c := by
  obtain ⟨y, h⟩ := h
  exact ⟨y, own_below h hb⟩
/-- slices of bytes of one's own, whatever they are -/
def RowsY (w : World) (lo : Nat) (vs : List Value) : Prop := ∀ v ∈ vs, ∃ A n c, v = .slice A n c ∧ n ≤ 4000 ∧ OwnS w lo A n c
theorem RowsY.set {w : World} {lo : Nat} {vs : List Value} (h : RowsY w lo vs) (b k : Nat) (u : Int) : RowsY (w.setCell ⟨b, k, none⟩ (.int .u8 u)) lo vs := fun v hv => by
  obtain ⟨A, n, c, e, h1, h2⟩ := h v hv
  exact ⟨A, n, c, e, h1, h2.set b k u⟩
theorem rowsY {w : World} {lo : Nat} {vs : List Value} {recs : List (List Int)} (h : Rows w lo vs recs) (hr : Recs 4000 recs) : RowsY w lo vs := fun v hv => by
  obtain ⟨i, hi, rfl⟩ := List.mem_iff_getElem.1 hv
  have hi' : i < recs.length := by have := h.1; omega
  obtain ⟨A, c, e, _, _, h2⟩ := h.2 i vs[i] recs[i] (List.getElem?_eq_getElem hi) (List.getElem?_eq_getElem hi')
  exact ⟨A, _, c, e, (hr _ (List.getElem_mem hi')).2, _, h2⟩
theorem own_set8 {w : World} {base sz n : Nat} {v : Value} {xs : List Value} (h : w.ownsRow base 27 sz v n xs) {g k : Nat} {cur : Array Value} (hg : w.heap[g]? = some (.cells cur 5 (0, 0))) (u : Value) : (w.setCell ⟨g, k, none⟩ u).ownsRow base 27 sz v n xs :=
  own_kept h fun j cur' hj _ => Below.heap_setCell _ _ _ _ fun e => by
    have e : j = g := e
    subst e
    rw [hg] at hj
    injection hj with hj
    injection hj with _ hj _
    cases hj
theorem only_cell (w : World) (g k : Nat) (u : Value) : Only (· = g) w (w.setCell ⟨g, k, none⟩ u) := Only.setCell (F := fun x => x = g) (p := ⟨g, k, none⟩) (Only.refl _ _) (.inl rfl) _
set_option maxRecDepth 100000 in
set_option maxHeartbeats 4000000 in
theorem jown_walk (A0 : Option Addr) (n0 c0 : Nat) (l0 : List Int) (w : World) (rd0 : Rd w w.heap.size 1 A0 n0 (l0.map (Value.int .i64))) (hI : ∀ x ∈ l0, -9223372036854775808 ≤ x ∧ x ≤ 9223372036854775807) (hn0 : n0 ≤ 9223372036854775807) :
    Calls Try.prog 8 #[.slice A0 n0 c0] w fun e w' => e = .returned (.bool true) ∧ Below w.heap.size w w' := by
  have R0 := Lib.hid rd0
  have HI := Lib.hid hI
  clear rd0 hI
  go_enter Try.func8, Try.ntmps8
  go_wp2_with fail
  refine (refrecords_any A0 n0 c0 l0 _ R0.out HI.out hn0).mono ?_
  rintro e w1 ⟨recs, hrl, hrs, A1, c1, vs, rfl, hc1, hm1, own1, rows1, hb1⟩
  obtain ⟨m, hm⟩ : ∃ m, recs.length = m := ⟨_, rfl⟩
  have HFL := Lib.hid (recs_len hrl hrs)
  rw [hm] at own1 hc1 hrl ⊢
  have HM := Lib.hid hm
  have HRS := Lib.hid (hrs.mono (show 140 ≤ 4000 by omega))
  have HRS1 := Lib.hid hrs
  have RV1 := Lib.hid (rd_own own1)
  have RW1 := Lib.hid rows1
  have B1 := Lib.hid hb1
  have HTL := Lib.hid (fun k => framesI_take_le hrs k)
  clear hm hrs own1 rows1 hb1
  go_wp2_with fail
  refine (filled_any none 0 0 0 [] [] _ (Rd.nil none) (Rows.nil _ _) (fun x hx => by cases hx) (by omega)).mono ?_
  rintro e w2 ⟨g, F, rfl, hlg, hF, hb2⟩
  have LG2 := Lib.hid hlg
  have HF2 := Lib.hid hF
  have B2 := Lib.hid hb2
  clear hlg hF hb2
  go_wp2
  go_loopw [5] (fun s5 wr => ∃ (k : Nat) (F : Nat → Prop), k ≤ m ∧ s5 = .int .i64 k ∧ Hid (Lg wr F g (recs.take k)) ∧ Hid (∀ j, F j → w1.heap.size ≤ j) ∧ Hid (Below w1.heap.size w1 wr)) (fun i _ => m - (intOf i).toNat)
  case atStart => exact ⟨0, F, by omega, rfl, LG2, HF2, B2⟩
  case round =>
    clear LG2 HF2 B2
    obtain ⟨k, F, hk, rfl, HLG, HF, HB⟩ := hrel
    by_cases hlt : k < m
    · obtain ⟨b, o, rfl, hb, hcell⟩ := (RV1.out.below HB.out (Nat.le_refl _)).open1 hlt
      have hkr : k < recs.length := by rw [HM.out]; exact hlt
      have hkv : k < vs.length := by have := RW1.out.1; omega
      obtain ⟨Ax, cx, hv, gx1, gx2, rdx, hlo⟩ := (RW1.out.2 k vs[k] recs[k] (List.getElem?_eq_getElem hkv) (List.getElem?_eq_getElem hkr)).rd
      rw [hv] at hcell
      have hxm := HRS1.out recs[k] (List.getElem_mem hkr)
      have HTK := Lib.hid (show recs.take (k + 1) = recs.take k ++ [recs[k]] from List.take_succ_eq_append_getElem hkr)
      have hTLk := HTL.out k
      have hTk2 := List.length_take_le k recs
      rw [HM.out] at hTLk
      obtain ⟨x, hx⟩ : ∃ x, recs[k] = x := ⟨_, rfl⟩
      have RX := Lib.hid (rdx.below HB.out (Nat.le_refl _))
      rw [hx] at hcell hxm HTK RX
      obtain ⟨hxb, hxl⟩ := hxm
      have HXB := Lib.hid hxb
      obtain ⟨ln, hln⟩ : ∃ ln, x.length = ln := ⟨_, rfl⟩
      rw [hln] at hcell RX hxl
      have HT2 := Lib.hid hTLk
      have hbw : b < wr.heap.size := by have := HB.out.size; omega
      clear hv rdx hlo hkr hkv hxb hln hTLk gx1 gx2 hx
      go_upto_region 9 with (at_builtin; refine wpList_app _ rfl (.tmp 26) (.tmp 30) slBytes rfl rfl (own_lit0 wr 5 1) (A := Ax) (m := ln) (c := cx) rfl (rd_step (RX.out.more HB.out.size) (b_alloc (Below.refl _ _) _)) (ints_one _ _) ln (Nat.zero_add _) (by unfold maxLen; omega) (by omega) (by simp) ?_; intro A2 c2 w3 g1 g2 g3 g4 _)
      have hb3 := below_app (b_alloc (Below.refl wr.heap.size wr) _) (own_lit0 wr 5 1) g4 (Nat.le_refl _) (by simp)
      have O3 := Lib.hid g3
      have LG3 := Lib.hid (HLG.out.below hb3)
      have HB3 := Lib.hid (b_call HB.out hb3)
      have hw1 := HB.out.size
      have z3 := hb3.size
      have HRF := Lib.hid (show RdF w3 F A2 ln x from ⟨by have := rd_own g3; rw [List.nil_append] at this; exact this, fun b' o' e hne hFb => by
        obtain ⟨gq, cur, e2, hgq, _⟩ := own_open g3 (by have := List.length_pos_iff.2 hne; have h1 := g3.1; simp at h1; omega)
        rw [e] at e2
        injection e2 with e2
        injection e2 with e3 e4
        have := HLG.out.lt _ hFb
        omega⟩)
      have HFlt := Lib.hid (fun j (h : F j) => HLG.out.lt j h)
      have HOL := Lib.hid (fun j (hj : (Value.slice A2 ln c2).ownBlock = some j) => And.intro (own_ge g3 hj) (own_ltX g3 hj))
      clear g3 g4 hb3 hcell HLG HB RX
      go_wp2_with fail
      refine (append_ok F g (recs.take k) A2 ln c2 x _ LG3.out HXB.out HRF.out (by omega) (Nat.le_trans HT2.out (Nat.le_trans (Nat.mul_le_mul_right _ hrl) (by decide))) (by omega)).mono ?_
      rintro e w4 ⟨rfl, F4, hlg4, hmv⟩
      obtain ⟨hb4, hF4⟩ := hmv.belowB HB3.out.size HF.out
      have LG4 := Lib.hid hlg4
      have HF4 := Lib.hid hF4
      have HB4 := Lib.hid (HB3.out.trans hb4)
      have HO4 := Lib.hid (show OwnS w4 wr.heap.size A2 ln c2 from ⟨x, own_same' (by have := O3.out; rw [List.nil_append] at this; exact this) fun j hj => hmv.2.heap (HOL.out j hj).2 (fun hFj => by have := HFlt.out j hFj; have := (HOL.out j hj).1; omega)⟩)
      have HN4 := Lib.hid (show ∀ j, (Value.slice A2 ln c2).ownBlock = some j → ¬ F4 j from fun j hj hFj => by
        rcases hmv.1 j hFj with h | h
        · have := HFlt.out j h
          have := (HOL.out j hj).1
          omega
        · have := (HOL.out j hj).2
          omega)
      clear hlg4 hmv hF4 hb4 LG3 HB3 HRF O3 HFlt HOL
      go_wp2
      go_loopw [7] (fun s7 wq => ∃ q : Nat, q ≤ ln ∧ s7 = .int .i64 q ∧ Hid (OwnS wq wr.heap.size A2 ln c2) ∧ Hid (Lg wq F4 g (recs.take (k + 1))) ∧ Hid (Below w1.heap.size w1 wq)) (fun i _ => ln - (intOf i).toNat)
      case atStart => exact ⟨0, by omega, rfl, HO4, by rw [HTK.out]; exact LG4, HB4⟩
      case round =>
        clear HO4 LG4 HB4
        obtain ⟨q, hq, rfl, HO, HL, HB⟩ := hrel
        by_cases hlq : q < ln
        · obtain ⟨gq, u, rfl, hgq, hu, hf, hl, _⟩ := HO.out.cell hlq
          have HNq := Lib.hid (HN4.out gq rfl)
          go_wp2
          go_roundw
          case rel => exact ⟨q + 1, by omega, by go_num, Lib.hid (HO.out.set gq q 1), Lib.hid (HL.out.mv0 (G := (· = gq)) (only_cell wr gq q _) (fun j hj e => by subst e; exact HNq.out hj)), Lib.hid (HB.out.setCell (p := ⟨gq, q, none⟩) (by show w1.heap.size ≤ gq; omega) _)⟩
          case measure => simp [intOf]; omega
        · go_wp2
          go_roundw
          case rel => exact ⟨k + 1, F4, by omega, by go_num, HL, HF4, HB⟩
          case measure => simp [intOf]; omega
    · obtain rfl : m = k := by omega
      have HT := Lib.hid (show recs.take m = recs from List.take_of_length_le (by rw [HM.out]; omega))
      rw [HT.out] at HLG
      obtain ⟨N, hN⟩ : ∃ N, (framesI recs).length = N := ⟨_, rfl⟩
      have HN := Lib.hid hN
      have hN1 : N ≤ 1500 := by rw [← hN]; exact HFL.out
      clear hN
      go_wp2_with fail
      refine (lbytes_any F g (framesI recs) _ _ N _ HLG.out HN.out (by omega)).mono ?_
      rintro e w5 ⟨A5, c5, rfl, h1, h2, own5, hb5⟩
      have LX5 := Lib.hid (HLG.out.below hb5)
      have B5 := Lib.hid (b_call HB.out hb5)
      have RB5 := Lib.hid (rd_own own5)
      have O5 := Lib.hid own5
      have z5 := hb5.size
      have zw := HB.out.size
      have HBY := Lib.hid (framesI_bytes (HRS.out.mono (show 4000 ≤ 16383 by omega)))
      have HOP := Lib.hid (opens_all HRS.out)
      have HNX := Lib.hid (show ∀ j, F j → j < wr.heap.size from fun j hj => HLG.out.lt j hj)
      clear own5 hb5 HLG HB
      go_wp2_with fail
      refine (open_any A5 N c5 (framesI recs) HBY.out _ RB5.out h1 h2 (by omega)).mono ?_
      rintro e w6 hO
      obtain ⟨g6, F6, rfl, hlg6, hF6, hb6⟩ := hO.get HOP.out
      have LX6 := Lib.hid (LX5.out.below hb6)
      have LY6 := Lib.hid hlg6
      have B6 := Lib.hid (b_call B5.out hb6)
      have O6 := Lib.hid (show OwnS w6 wr.heap.size A5 N c5 from ⟨_, own_below O5.out hb6⟩)
      have HNY := Lib.hid (show ∀ j, (Value.slice A5 N c5).ownBlock = some j → ¬ F6 j from fun j hj hFj => by
        have := hF6 j hFj
        have := own_ltX O5.out hj
        omega)
      clear hO hlg6 hF6 hb6 LX5 B5 RB5 O5
      go_wp2
      go_loopw [11] (fun s11 wq => ∃ q : Nat, q ≤ N ∧ s11 = .int .i64 q ∧ Hid (OwnS wq wr.heap.size A5 N c5) ∧ Hid (Lg wq F g recs) ∧ Hid (Lg wq F6 g6 recs) ∧ Hid (Below w1.heap.size w1 wq)) (fun i _ => N - (intOf i).toNat)
      case atStart => exact ⟨0, by omega, rfl, O6, LX6, LY6, B6⟩
      case round =>
        clear O6 LX6 LY6 B6
        obtain ⟨q, hq, rfl, HO, HLX, HLY, HB⟩ := hrel
        by_cases hlq : q < N
        · obtain ⟨gq, u, rfl, hgq, hu, hf, hl, _⟩ := HO.out.cell hlq
          have HNq := Lib.hid (HNY.out gq rfl)
          go_wp2
          go_roundw
          case rel => exact ⟨q + 1, by omega, by go_num, Lib.hid (HO.out.set gq q 2), Lib.hid (HLX.out.mv0 (G := (· = gq)) (only_cell wr gq q _) (fun j hj e => by have := HNX.out j hj; omega)), Lib.hid (HLY.out.mv0 (G := (· = gq)) (only_cell wr gq q _) (fun j hj e => by subst e; exact HNq.out hj)), Lib.hid (HB.out.setCell (p := ⟨gq, q, none⟩) (by show w1.heap.size ≤ gq; omega) _)⟩
          case measure => simp [intOf]; omega
        · have hNq : N ≤ q := by omega
          clear HO
          obtain ⟨W0, rfl⟩ : ∃ W : World, W = wr := ⟨_, rfl⟩
          have BW := Lib.hid HB.out
          go_wp2_with fail
          refine (records_any F g recs m _ HLX.out HM.out (by rw [HN.out]; omega)).mono ?_
          rintro e w7 ⟨A7, c7, vs7, rfl, k1, k2, own7, rows7, hb7⟩
          have B7 := Lib.hid hb7
          have O7 := Lib.hid own7
          have Y7 := Lib.hid (rowsY rows7 HRS.out)
          have HV7 := Lib.hid (show vs7.length = m from by have := rows7.1; rw [HM.out] at this; exact this)
          clear own7 rows7 hb7 HB
          go_wp2
          go_loopw [13] (fun s13 wq => ∃ i : Nat, i ≤ m ∧ s13 = .int .i64 i ∧ Hid (wq.ownsRow W0.heap.size 27 1 (.slice A7 m c7) m vs7) ∧ Hid (RowsY wq W0.heap.size vs7) ∧ Hid (Below W0.heap.size W0 wq)) (fun i _ => m - (intOf i).toNat)
          case atStart => exact ⟨0, by omega, rfl, O7, Y7, B7⟩
          case round =>
            clear O7 Y7 B7
            obtain ⟨i, hi, rfl, HO, HY, HB⟩ := hrel
            by_cases hlt : i < m
            · have hiv : i < vs7.length := by rw [HV7.out]; exact hlt
              obtain ⟨A9, n9, c9, hv9, hn9, _⟩ := HY.out vs7[i] (List.getElem_mem hiv)
              have HV9 := Lib.hid hv9
              go_wp2
              go_loopw [14] (fun s14 wq => ∃ q : Nat, q ≤ n9 ∧ s14 = .int .i64 q ∧ Hid (wq.ownsRow W0.heap.size 27 1 (.slice A7 m c7) m vs7) ∧ Hid (RowsY wq W0.heap.size vs7) ∧ Hid (Below W0.heap.size W0 wq)) (fun i _ => n9 - (intOf i).toNat)
              case atStart => exact ⟨0, by omega, rfl, HO, HY, HB⟩
              case round =>
                clear HO HY HB hv9
                obtain ⟨q, hq, rfl, HO, HY, HB⟩ := hrel
                obtain ⟨bo, oo, rfl, hbo, hco⟩ := (rd_own HO.out).open1 hlt
                rw [HV9.out] at hco
                obtain ⟨A', n', c', e, h1', h2'⟩ := HY.out vs7[i] (List.getElem_mem hiv)
                rw [HV9.out] at e
                injection e with e1 e2 e3
                subst e1 e2 e3
                have H2 := Lib.hid h2'
                clear h2'
                by_cases hlq : q < n9
                · obtain ⟨gq, u, rfl, hgq, hu, hf, hl, cur, hcur⟩ := H2.out.cell hlq
                  have HCU := Lib.hid hcur
                  clear hcur
                  go_wp2
                  go_roundw
                  case rel => exact ⟨q + 1, by omega, by go_num, Lib.hid (own_set8 HO.out HCU.out _), Lib.hid (HY.out.set gq q 3), Lib.hid (HB.out.setCell (p := ⟨gq, q, none⟩) hgq _)⟩
                  case measure => simp [intOf]; omega
                · go_wp2
                  go_roundw
                  case rel => exact ⟨i + 1, by omega, by go_num, HO, HY, HB⟩
                  case measure => simp [intOf]; omega
            · have hmi : m ≤ i := by omega
              clear HO HY
              have LX8 := Lib.hid (HLX.out.below HB.out)
              have LY8 := Lib.hid (HLY.out.below HB.out)
              have B8 := Lib.hid (BW.out.trans (HB.out.mono BW.out.size))
              clear HB
              go_wp2_with fail
              refine (records_any F g recs m _ LX8.out HM.out (by rw [HN.out]; omega)).mono ?_
              rintro e w9 ⟨A9, c9, vs9, rfl, k3, k4, own9, rows9, hb9⟩
              have B9 := Lib.hid (b_call B8.out hb9)
              have LY9 := Lib.hid (LY8.out.below hb9)
              have O9 := Lib.hid own9
              have RW9 := Lib.hid rows9
              clear own9 rows9 hb9 LX8 LY8 B8
              go_wp2_with fail
              refine (same_any A9 A1 m c9 m c1 _ _ vs9 vs recs recs true (by simp) _ (rd_own O9.out) RW9.out ((RV1.out.below B9.out (Nat.le_refl _)).more B9.out.size) (RW1.out.below B9.out) 4000 HRS.out HRS.out (by omega) (by omega)).mono ?_
              rintro e w10 ⟨rfl, hb10⟩
              have B10 := Lib.hid (b_call B9.out hb10)
              have LY10 := Lib.hid (LY9.out.below hb10)
              clear hb10 LY9 O9 RW9 B9
              go_wp2_with fail
              refine (records_any F6 g6 recs m _ LY10.out HM.out (by rw [HN.out]; omega)).mono ?_
              rintro e w11 ⟨A11, c11, vs11, rfl, k5, k6, own11, rows11, hb11⟩
              have B11 := Lib.hid (b_call B10.out hb11)
              have O11 := Lib.hid own11
              have RW11 := Lib.hid rows11
              clear own11 rows11 hb11 LY10 B10
              go_wp2_with fail
              refine (same_any A11 A1 m c11 m c1 _ _ vs11 vs recs recs true (by simp) _ (rd_own O11.out) RW11.out ((RV1.out.below B11.out (Nat.le_refl _)).more B11.out.size) (RW1.out.below B11.out) 4000 HRS.out HRS.out (by omega) (by omega)).mono ?_
              rintro e w12 ⟨rfl, hb12⟩
              have B12 := Lib.hid (b_call B11.out hb12)
              clear hb12
              go_wp2_with fail
              refine (lives_any _).mono ?_
              rintro e w13 ⟨rfl, hb13⟩
              go_wp2
              go_ret
              exact ⟨rfl, b_call B1.out (b_call B12.out hb13)⟩
end Go.Proofs.Ytmoajnekegbncaa
