/-
  WHAT IS PROVED HERE: the contract of package inputqueue's fix. No condition but that the queue lies in memory as stated.
-/
import Derived.Test.YtdjmaljldajpiaaIqG2
namespace Go.Proofs.Ytdjmaljldajpiaa
set_option linter.unusedVariables false
open Go.ChangeShapes Go.WideShapes Go.ChangeAt Go.RowKit
open Go.Maps (Keyed)

set_option maxRecDepth 100000 in
set_option maxHeartbeats 4000000 in
theorem fix_any (p b : Nat) (g : Option Nat) (k wt nm : Nat) (pd : Nat → Nat → Option Inp) (rows : List RowV) (w : World) (h : Iqu w p b g k wt nm pd rows) (hk : k ≤ 8) (hr : rows.length < 6000) :
    Calls Try.prog 30 #[.pointer (some ⟨p, 0, none⟩)] w (RetFix w p b g k wt nm pd rows) := by
  have HQ := Lib.hid h
  have hpl := h.lt p (.inl rfl)
  obtain ⟨A, c, F, hV, hG, h4, h5, hM, hF, hown⟩ := h
  have h0 : w.cell? ⟨p, 0, none⟩ = some (.int .i64 k) := by rw [hV.cell]; rfl
  have h2 : w.cell? ⟨p, 2, none⟩ = some (.map (some b)) := by rw [hV.cell]; rfl
  have h3 : w.cell? ⟨p, 3, none⟩ = some (.slice A rows.length c) := by rw [hV.cell]; rfl
  have HM := Lib.hid hM
  have HF := Lib.hid (hF rows.length (by omega))
  have HPW := Lib.hid hF
  have HO := Lib.hid hown
  have HG := Lib.hid hG
  have HVP := Lib.hid hV
  clear hM hF hown hV hG
  obtain ⟨f, hf⟩ : ∃ f, pd rows.length = f := ⟨_, rfl⟩
  rw [hf] at HF
  have HFF := Lib.hid hf
  clear hf
  obtain ⟨n, hn⟩ : ∃ n, rows.length = n := ⟨_, rfl⟩
  rw [hn] at h3 h4 hr HF HFF HO HVP HG
  have HNN := Lib.hid hn
  clear hn
  go_enter Try.func30, Try.ntmps30
  go_upto_if 19 with (first
    | (at_lookup; refine wpList_lookV _ rfl (.tmp 15) (.tmp 16) 59 rfl keyInt Try.underlying59 (zeroSlots _) rfl HM.out rfl (keyN (by omega)) HF.out ?_)
    | (refine wpList_store_new rfl 69 (.tmp 3) (.tmp 17) rfl _ (slotsC f).toArray rfl rfl (by rw [List.size_toArray, slotsC_len]; exact infoSlots) (by simp [slotsC_len]) (all_oneCell_toArray (slotsC_cell _)) ?_))
  refine name_world ?_
  intro X hX
  have hBX : Below w.heap.size w X := by rw [hX]; (repeat (first | (with_reducible exact Below.refl _ _) | (with_reducible assumption) | (with_reducible refine b_drew ?_) | (with_reducible refine b_drewN ?_ _) | (with_reducible refine b_alloc ?_ _) | ((with_reducible refine b_set ?_ ?_ _); rotate_left; (focus (first | omega | (simp; done) | (simp; omega) | (simp at *; omega)))) | (with_reducible refine b_call ?_ (by with_reducible assumption))))
  have VS := Lib.hid (show Vr X w.heap.size 69 (slotsC f).toArray from by rw [hX]; exact ((Vr.new w _ _).alloc _).alloc _)
  have VL := Lib.hid (show Vr X (w.heap.size + 1) 75 (rowC zrow).toArray from by
    rw [hX, rowC_zero]
    have := (Vr.new (w.alloc (.cells (slotsC f).toArray 69)) 75 (rowC zrow).toArray).alloc (.cells (rowC zrow).toArray 75)
    rw [rowC_zero] at this
    simpa using this)
  have VN := Lib.hid (show Vr X (w.heap.size + 1 + 1) 75 (rowC zrow).toArray from by
    rw [hX, rowC_zero]
    have := Vr.new ((w.alloc (.cells (slotsC f).toArray 69)).alloc (.cells (rowC zrow).toArray 75)) 75 (rowC zrow).toArray
    rw [rowC_zero] at this
    simpa using this)
  clear hX
  have x0 : X.cell? ⟨p, 0, none⟩ = some (.int .i64 k) := cell_keep hBX h0
  have x2 : X.cell? ⟨p, 2, none⟩ = some (.map (some b)) := cell_keep hBX h2
  have x3 : X.cell? ⟨p, 3, none⟩ = some (.slice A n c) := cell_keep hBX h3
  have HC := Lib.hid (And.intro h0 (And.intro h2 h3))
  clear h0 h2 h3
  go_cut [] from 20 to 27 (fun wx => Hid (Vr wx w.heap.size 69 (slotsC f).toArray ∧ Vr wx (w.heap.size + 1) 75 (rowC (lastRow rows)).toArray ∧ Vr wx (w.heap.size + 1 + 1) 75 (rowC zrow).toArray) ∧ Below w.heap.size w wx)
  case first =>
    rcases Nat.eq_zero_or_pos n with hz | hz
    · subst hz
      go_wp2
      go_meet
      case rel => exact ⟨Lib.hid ⟨VS.out, by rw [lastRow_nil HNN.out]; exact VL.out, VN.out⟩, hBX⟩
    · obtain ⟨t, rfl⟩ : ∃ t, n = t + 1 := ⟨n - 1, by omega⟩
      obtain ⟨b1, cur, rfl, _, hV, htk, hn, hs⟩ := own_open HO.out hz
      have HR := Lib.hid (show X.rangeAt b1 (t * 32) (rowC (lastRow rows)) from by
        intro j v hj
        have hjl : j < 32 := by
          rcases Nat.lt_or_ge j 32 with h | h
          · exact h
          · rw [List.getElem?_eq_none (by rw [rowC_len]; exact h)] at hj; cases hj
        have htr : t < rows.length := by rw [HNN.out]; omega
        have h1 := block_get rowC 32 rowC_len rows htr hjl
        have hl : lastRow rows = rows[t]'htr := lastRow_eq htr (by rw [HNN.out]; omega)
        rw [← hl, hj, ← htk, List.getElem?_take] at h1
        split at h1
        · refine cell_keep hBX ?_
          rw [hV.cell]
          simpa using h1
        · cases h1)
      clear hV htk hs hz hn
      go_wp2_with (first
        | (refine wpList_load_mid rfl 75 (.tmp 26) rfl b1 (t * 32) rfl (rowC (lastRow rows)) _ HR.out Try.underlying75 rfl (by rw [rowC_len]; exact infoRow) ?_)
        | (refine wpList_store_row rfl 75 (.tmp 4) (.tmp 27) rfl (rowC (lastRow rows)).toArray VL.out rfl rfl (by rw [List.size_toArray, rowC_len]; exact infoRow) (by simp [rowC_len]) (all_oneCell_toArray (rowC_cell _)) ?_
           intro Y hY1 hY2))
      go_meet
      case rel => exact ⟨Lib.hid ⟨VS.out.only hY2 (by omega), hY1, VN.out.only hY2 (by omega)⟩, hBX.trans (hY2.below hBX.size (by rintro j rfl; omega))⟩
  case rest =>
    obtain ⟨HV, hB⟩ := hcut
    have y0 : wc.cell? ⟨p, 0, none⟩ = some (.int .i64 k) := cell_keep hB HC.out.1
    have HC' := Lib.hid (show wc.cell? ⟨p, 2, none⟩ = some (.map (some b)) ∧ wc.cell? ⟨p, 3, none⟩ = some (.slice A n c) from ⟨cell_keep hB HC.out.2.1, cell_keep hB HC.out.2.2⟩)
    clear x0 x2 x3 VS VL VN hBX
    have hzc := HV.out.2.2.lt
    go_wp2
    go_loopw [32] (fun i wr => ∃ j : Nat, j ≤ k ∧ i = .int .i64 j ∧ Hid (Vr wr (w.heap.size + 1 + 1) 75 (rowC (fixRow j (lastRow rows) f)).toArray) ∧ Only (· = w.heap.size + 1 + 1) wc wr) (fun i _ => k - (intOf i).toNat)
    case atStart => exact ⟨0, by omega, rfl, Lib.hid (by rw [fixRow_zero]; exact HV.out.2.2), Only.refl _ _⟩
    case round =>
      obtain ⟨j, hj, rfl, HN, hO⟩ := hrel
      by_cases hlt : j < k
      · have hcs : wr.cell? ⟨w.heap.size, j * 4 + 3, none⟩ = some (.bool (f j).isSome) := by rw [(HV.out.1.only hO (by omega)).cell, List.getElem?_toArray]; exact slot_at f (by omega)
        have hfz := HN.out.frozen
        have hsz := HN.out.lt
        have e0 : wr.cell? ⟨w.heap.size + 1 + 1, j * 3, none⟩ = some (.int .i64 ((fixRow j (lastRow rows) f).1 j).1) := by rw [HN.out.cell, List.getElem?_toArray]; exact rowC_in _ (j := 0) (by omega) (by omega)
        have e1 : wr.cell? ⟨w.heap.size + 1 + 1, j * 3 + 1, none⟩ = some (.int .i64 ((fixRow j (lastRow rows) f).1 j).2.1) := by rw [HN.out.cell, List.getElem?_toArray]; exact rowC_in _ (j := 1) (by omega) (by omega)
        have e2 : wr.cell? ⟨w.heap.size + 1 + 1, j * 3 + 2, none⟩ = some (.int .i64 ((fixRow j (lastRow rows) f).1 j).2.2) := by rw [HN.out.cell, List.getElem?_toArray]; exact rowC_in _ (j := 2) (by omega) (by omega)
        have e3 : wr.cell? ⟨w.heap.size + 1 + 1, 24 + j, none⟩ = some (.bool ((fixRow j (lastRow rows) f).2 j)) := by rw [HN.out.cell, List.getElem?_toArray]; exact rowC_miss _ (by omega)
        rcases hfj : f j with _ | ⟨u1, u2, u3⟩
        · rw [hfj, Option.isSome_none] at hcs
          have HFJ := Lib.hid (fix_none (i := j) (last := lastRow rows) (by omega) hfj)
          clear hfj
          obtain ⟨⟨v1, v2, v3⟩, hv⟩ : ∃ v, (lastRow rows).1 j = v := ⟨_, rfl⟩
          have VLr := HV.out.2.1.only hO (by omega)
          have s0 : wr.cell? ⟨w.heap.size + 1, j * 3, none⟩ = some (.int .i64 v1) := by rw [VLr.cell, List.getElem?_toArray]; have := rowC_in (lastRow rows) (i := j) (j := 0) (by omega) (by omega); rw [hv] at this; exact this
          have s1 : wr.cell? ⟨w.heap.size + 1, j * 3 + 1, none⟩ = some (.int .i64 v2) := by rw [VLr.cell, List.getElem?_toArray]; have := rowC_in (lastRow rows) (i := j) (j := 1) (by omega) (by omega); rw [hv] at this; exact this
          have s2 : wr.cell? ⟨w.heap.size + 1, j * 3 + 2, none⟩ = some (.int .i64 v3) := by rw [VLr.cell, List.getElem?_toArray]; have := rowC_in (lastRow rows) (i := j) (j := 2) (by omega) (by omega); rw [hv] at this; exact this
          rw [hv] at HFJ
          generalize ((fixRow j (lastRow rows) f).1 j).1 = q0 at e0
          generalize ((fixRow j (lastRow rows) f).1 j).2.1 = q1 at e1
          generalize ((fixRow j (lastRow rows) f).1 j).2.2 = q2 at e2
          generalize (fixRow j (lastRow rows) f).2 j = q3 at e3
          clear hv VLr
          go_wp2_with fail
          refine (predict3 _ _ _ _).mono ?_
          rintro e w5 ⟨rfl, hb5⟩
          have f0 := cell_keep hb5 e0
          have f1 := cell_keep hb5 e1
          have f2 := cell_keep hb5 e2
          have f3 := cell_keep hb5 e3
          have VN5 := Lib.hid (HN.out.call hb5)
          have hz5 := VN5.out.lt
          have hf5 := VN5.out.frozen
          have O5 : Only (· = w.heap.size + 1 + 1) wc w5 := hO.step (Only.of_below hb5 (fun i => wr.heap.size ≤ i) (fun i h _ => h)) (fun i hi h => by have := hO.size; omega)
          clear e0 e1 e2 e3 hcs s0 s1 s2 hb5 hfz hsz
          go_wp2
          go_roundw
          case rel => exact ⟨j + 1, by omega, by go_num, Lib.hid (by rw [HFJ.out]; have := (((VN5.out.set (j * 3) (.int .i64 v1)).set (j * 3 + 1) (.int .i64 v2)).set (j * 3 + 2) (.int .i64 0)).set (24 + j) (.bool true); simpa [pred] using this), (((O5.setCell (.inl rfl) _).setCell (.inl rfl) _).setCell (.inl rfl) _).setCell (.inl rfl) _⟩
          case measure => simp [intOf]; omega
        · have s0 : wr.cell? ⟨w.heap.size, j * 4, none⟩ = some (.int .i64 u1) := by rw [(HV.out.1.only hO (by omega)).cell, List.getElem?_toArray]; have := slotsC_get f (i := j) (j := 0) (by omega) (by omega); rw [hfj] at this; exact this
          have s1 : wr.cell? ⟨w.heap.size, j * 4 + 1, none⟩ = some (.int .i64 u2) := by rw [(HV.out.1.only hO (by omega)).cell, List.getElem?_toArray]; have := slotsC_get f (i := j) (j := 1) (by omega) (by omega); rw [hfj] at this; exact this
          have s2 : wr.cell? ⟨w.heap.size, j * 4 + 2, none⟩ = some (.int .i64 u3) := by rw [(HV.out.1.only hO (by omega)).cell, List.getElem?_toArray]; have := slotsC_get f (i := j) (j := 2) (by omega) (by omega); rw [hfj] at this; exact this
          rw [hfj, Option.isSome_some] at hcs
          have HFJ := Lib.hid (fix_some (i := j) (last := lastRow rows) (by omega) hfj)
          clear hfj
          generalize ((fixRow j (lastRow rows) f).1 j).1 = q0 at e0
          generalize ((fixRow j (lastRow rows) f).1 j).2.1 = q1 at e1
          generalize ((fixRow j (lastRow rows) f).1 j).2.2 = q2 at e2
          generalize (fixRow j (lastRow rows) f).2 j = q3 at e3
          go_wp2
          go_roundw
          case rel => exact ⟨j + 1, by omega, by go_num, Lib.hid (by rw [HFJ.out]; have := ((HN.out.set (j * 3) (.int .i64 u1)).set (j * 3 + 1) (.int .i64 u2)).set (j * 3 + 2) (.int .i64 u3); simpa using this), ((hO.setCell (.inl rfl) _).setCell (.inl rfl) _).setCell (.inl rfl) _⟩
          case measure => simp [intOf]; omega
      · obtain rfl : k = j := by omega
        have HE := Lib.hid (show fixRow k (lastRow rows) f = fixRow k (lastRow rows) (pd rows.length) from by rw [HNN.out, HFF.out])
        obtain ⟨r, hrr⟩ : ∃ r, fixRow k (lastRow rows) f = r := ⟨_, rfl⟩
        rw [hrr] at HE HN
        clear hrr
        have hB2 : Below w.heap.size w wr := hB.trans (hO.below hB.size (by rintro j rfl; omega))
        have y2 := cell_keep hB2 HC.out.2.1
        have y3 := cell_keep hB2 HC.out.2.2
        have HOr := Lib.hid (own_below HO.out hB2)
        clear y0 y2 y3
        go_wp2
        have hbp : p ≠ b := HVP.out.not_map HM.out
        go_cut [] from 58 to 67 (fun wx => ∃ (A5 : Option Addr) (c5 : Nat), Hid (FixMid w wx p b g k wt nm n A5 c5 F (rows.flatMap rowC ++ rowC r)))
        case first =>
          refine Code.wp_mono OnlyN.then (fix_region _ p b (w.heap.size + 1 + 1) g k wt nm n c A F (rows.flatMap rowC) r w wr _ _ _ _ _ _ _ _ _ _ _ _ _ _ _ _ _ _ _ _ _ _ _ _ _ _ _ _ _ _ _ _ _ _ _ _ _ _ _ _ _ _ _ _ _ _ _ _ _ _ _ _ _ _ _ _ _ _ _ _ _ _ _ _ _ _ _ _ _ _ _ HVP.out HM.out HOr.out HG.out hB2 hr HN.out ?_)
          intro A5 c5 Z v58 v59 v60 v61 v62 v63 v64 v65 v66 v67 HF
          have HFM := Lib.hid HF
          clear HF
          go_wp2
          go_meet
          case rel => exact ⟨A5, c5, HFM⟩
        case rest =>
          obtain ⟨A5, c5, HFM⟩ := hcut
          have z2 : wc.cell? ⟨p, 2, none⟩ = some (.map (some b)) := by rw [HFM.out.q.cell]; rfl
          have HRl := Lib.hid (show rows.length = n from HNN.out)
          go_wp2_with (refine wpList_dropV _ rfl (.tmp 71) (.tmp 72) 59 3 rfl keyInt Try.underlying59 rfl HFM.out.m rfl (keyN (by omega)) ?_; intro w6 m1 m2)
          have HM1 := Lib.hid (And.intro m1 m2)
          clear m1 m2

          go_end0
          exact fix_end HNN.out hr HE.out HPW.out HFM.out HM1.out.1 HM1.out.2
end Go.Proofs.Ytdjmaljldajpiaa
