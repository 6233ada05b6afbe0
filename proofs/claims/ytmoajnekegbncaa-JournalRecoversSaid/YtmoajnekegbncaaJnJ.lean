/-
  WHAT IS PROVED HERE: the contracts of the law's helpers filled and lives. No condition but bounds that every machine's lengths meet.
-/
import Derived.Test.YtmoajnekegbncaaJnI
import Derived.Lib.SmallJoins
namespace Go.Proofs.Ytmoajnekegbncaa
set_option linter.unusedVariables false
open Go.ChangeShapes Go.WideShapes Go.ChangeAt Go.RowKit

theorem OpenRet.get {w w' : World} {L : List Int} {e : Ending} {ys : List (List Int)} (h : OpenRet w L e w') (ho : Opens L ys 0) : ∃ g F, e = .returned (.tuple #[.pointer (some ⟨g, 0, none⟩), .int .i64 0]) ∧ Lg w' F g ys ∧ (∀ k, F k → w.heap.size ≤ k) ∧ Below w.heap.size w w' := by
  obtain ⟨xs, er, h1, hb, h2⟩ := h
  obtain ⟨rfl, rfl⟩ := opens_det h1 ho
  rcases h2 with ⟨_, g, F, e1, e2, e3⟩ | ⟨h3, _⟩
  · exact ⟨g, F, e1, e2, e3, hb⟩
  · exact absurd rfl h3
theorem OpenRet.err {w w' : World} {L : List Int} {e : Ending} {ys : List (List Int)} {er : Int} (h : OpenRet w L e w') (ho : Opens L ys er) (he : er ≠ 0) : e = .returned (.tuple #[.pointer none, .int .i64 er]) ∧ Below w.heap.size w w' := by
  obtain ⟨xs, er', h1, hb, h2⟩ := h
  obtain ⟨rfl, rfl⟩ := opens_det h1 ho
  rcases h2 with ⟨h3, _⟩ | ⟨_, h3⟩
  · exact absurd h3 he
  · exact ⟨h3, hb⟩
theorem len_ok {n c : Nat} (h1 : n ≤ c) (h2 : c ≤ maxLen) : n ≤ 9223372036854775807 := by unfold maxLen at h2; omega
/-- A log with the records comes back, in new memory. -/
def RetLog (w : World) (recs : List (List Int)) (e : Ending) (w' : World) : Prop :=
  ∃ g F, e = .returned (.pointer (some ⟨g, 0, none⟩)) ∧ Lg w' F g recs ∧ (∀ k, F k → w.heap.size ≤ k) ∧ Below w.heap.size w w'
set_option maxHeartbeats 2000000 in
theorem filled_any (A : Option Addr) (n c lo : Nat) (vs : List Value) (recs : List (List Int)) (w : World) (rd : Rd w w.heap.size 1 A n vs) (hr : Rows w lo vs recs) (hrs : Recs 4000 recs) (hn : n ≤ 100000) :
    Calls Try.prog 11 #[.slice A n c] w (RetLog w recs) := by
  have hl : vs.length = n := by have := rd.1; simpa using this
  have hl2 : recs.length = n := by rw [← hr.1]; exact hl
  have HL2 := Lib.hid hl2
  have RD := Lib.hid rd
  have HR := Lib.hid hr
  have HRS := Lib.hid hrs
  have HTL := Lib.hid (fun k => framesI_take_le hrs k)
  clear rd hr hrs hl hl2
  go_enter Try.func11, Try.ntmps11
  go_wp2_with fail
  refine (open_any none 0 0 [] (fun x hx => by cases hx) _ (Rd.nil none) (by omega) (by simp [maxLen]) (by omega)).mono ?_
  rintro e w1 hO
  obtain ⟨g, F, rfl, hlg, hF, hb⟩ := hO.get Opens.nil
  have HLG := Lib.hid hlg
  have HF := Lib.hid hF
  have HB := Lib.hid hb
  clear hO hlg hF hb
  go_wp2
  go_loopw [5] (fun s5 wr => ∃ (k : Nat) (F : Nat → Prop), k ≤ n ∧ s5 = .int .i64 k ∧ Hid (Lg wr F g (recs.take k)) ∧ Hid (∀ j, F j → w.heap.size ≤ j) ∧ Hid (Below w.heap.size w wr)) (fun i _ => n - (intOf i).toNat)
  case atStart => exact ⟨0, F, by omega, rfl, HLG, HF, HB⟩
  case round =>
    clear HLG HF HB
    obtain ⟨k, F, hk, rfl, HLG, HF, HB⟩ := hrel
    by_cases hlt : k < n
    · obtain ⟨b, o, rfl, hb, hcell⟩ := (RD.out.below HB.out (Nat.le_refl _)).open1 hlt
      have hkr : k < recs.length := by rw [HL2.out]; exact hlt
      have hkv : k < vs.length := by have := HR.out.1; omega
      obtain ⟨A1, c1, hv, g1, g2, rd1, hlo⟩ := (HR.out.2 k vs[k] recs[k] (List.getElem?_eq_getElem hkv) (List.getElem?_eq_getElem hkr)).rd
      rw [hv] at hcell
      have hm := HRS.out recs[k] (List.getElem_mem hkr)
      have HTK := Lib.hid (show recs.take (k + 1) = recs.take k ++ [recs[k]] from List.take_succ_eq_append_getElem hkr)
      have hRF : RdF wr F A1 (recs[k]).length recs[k] := ⟨(rd1.below HB.out (Nat.le_refl _)).more HB.out.size, fun b' o' e hne hFb => by
        obtain ⟨b2, o2, e2, hb2, _⟩ := rd1.2 (by simpa using hne)
        rw [e] at e2
        injection e2 with e2
        injection e2 with e3 e4
        have := HF.out _ hFb
        omega⟩
      have HRF := Lib.hid hRF
      have hTLk := HTL.out k
      have hTk2 := List.length_take_le k recs
      rw [HL2.out] at hTLk
      obtain ⟨x, hx⟩ : ∃ x, recs[k] = x := ⟨_, rfl⟩
      rw [hx] at hcell HTK hm HRF
      obtain ⟨hxb, hxl⟩ := hm
      have HXB := Lib.hid hxb
      obtain ⟨ln, hln⟩ : ∃ ln, x.length = ln := ⟨_, rfl⟩
      rw [hln] at hcell HRF hxl
      have HT2 := Lib.hid hTLk
      clear hv rd1 hlo hRF hx hkr hkv hxb hln hTLk g1 g2
      go_wp2_with fail
      refine (append_ok F g (recs.take k) A1 ln c1 x _ HLG.out HXB.out HRF.out hxl (Nat.le_trans HT2.out (Nat.le_trans (Nat.mul_le_mul_right _ hn) (by decide))) (by omega)).mono ?_
      rintro e w2 ⟨rfl, F', hlg2, hmv⟩
      obtain ⟨hb2, hF2⟩ := hmv.belowB HB.out.size HF.out
      have HLG2 := Lib.hid hlg2
      have HF2 := Lib.hid hF2
      have HB2 := Lib.hid (HB.out.trans hb2)
      clear hlg2 hmv hF2 hb2
      go_wp2
      go_roundw
      case rel => exact ⟨k + 1, F', by omega, by go_num, by rw [HTK.out]; exact HLG2, HF2, HB2⟩
      case measure => simp [intOf]; omega
    · obtain rfl : n = k := by omega
      have HT := Lib.hid (show recs.take n = recs from List.take_of_length_le (by rw [HL2.out]; omega))
      rw [HT.out] at HLG
      go_wp2
      go_ret
      exact ⟨g, F, rfl, HLG.out, HF.out, HB.out⟩
theorem fr97_len : (frameI [97]).length = 10 := by rw [frameI_len]; rfl
theorem fr97_0 : (frameI [97])[0]? = some 1 := rfl
theorem fr97_9 : (frameI [97])[9]? = some 97 := by
  have e : frameI [97] = ([1] ++ sumB [97]) ++ [97] := rfl
  have h : ([1] ++ sumB [97]).length = 9 := by rw [List.length_append, sumB_len]; rfl
  rw [e, List.getElem?_append_right (by omega), h]
  rfl
theorem recs97 : Recs 4000 [[97]] := fun x hx => by
  simp at hx
  rw [hx]
  exact ⟨fun y hy => by simp at hy; omega, by simp⟩
theorem open97 : Opens (frameI [97]) [[97]] 0 := by
  have := opens_all recs97
  rwa [framesI_one] at this
theorem open97_9 : Opens ((frameI [97]).take 9) [] 0 := by
  have := step_part (x := [97]) (by simp) [] (j := 9) (by show 9 < 10; omega)
  rw [List.append_nil] at this
  exact .torn this
theorem rdF_new {w : World} {F : Nat → Prop} (cs : Array Value) (L : List Int) (e : TypeId) (f : Nat × Nat) (h : cs.toList = L.map (Value.int .u8)) (hF : ∀ k, F k → k < w.heap.size) : RdF (w.alloc (.cells cs e f)) F (some ⟨w.heap.size, 0, none⟩) L.length L := by
  refine ⟨⟨by simp, fun _ => ⟨w.heap.size, 0, rfl, by simp, fun j u hu => ?_⟩⟩, fun b o he _ hFb => ?_⟩
  · rw [Nat.zero_add, World.cell?_alloc_mark, ← Array.getElem?_toList, h]
    exact hu
  · injection he with he
    injection he with h1 h2
    have := hF b hFb
    omega
set_option maxRecDepth 100000 in
set_option maxHeartbeats 4000000 in
theorem lives_any (w : World) : Calls Try.prog 17 #[] w fun e w' => e = .returned (.bool true) ∧ Below w.heap.size w w' := by
  go_enter Try.func17, Try.ntmps17
  go_wp2_with fail
  refine (open_any none 0 0 [] (fun x hx => by cases hx) _ (Rd.nil none) (by omega) (by simp [maxLen]) (by omega)).mono ?_
  rintro e w1 hO
  obtain ⟨g, F, rfl, hlg, hF, hb⟩ := hO.get Opens.nil
  have HLG := Lib.hid hlg
  have HF := Lib.hid hF
  have HB := Lib.hid hb
  clear hO hlg hF hb
  go_wp2_with fail
  refine (lbytes_any F g [] [] 0 0 _ HLG.out rfl (by omega)).mono ?_
  rintro e w2 ⟨A2, c2, rfl, g1, g2, g3, hb2⟩
  have HLG2 := Lib.hid (HLG.out.below hb2)
  have HB2 := Lib.hid (b_call HB.out hb2)
  clear g1 g2 g3 hb2 HLG HB
  have hcv := Joins.run_convert_bytes_const_at (P := Try.prog) w2 27 5 #[.int .u8 97] 1 1 w2.heap.size rfl Try.underlying27 Try.underlying5
  go_wp2_with fail
  clear hcv
  refine (append_ok F g [] (some ⟨w2.heap.size, 0, none⟩) 1 1 [97] _ (HLG2.out.below (b_alloc (Below.refl _ _) _)) (recs97 _ (by simp)).1 (rdF_new #[.int .u8 97] [97] _ _ rfl HLG2.out.lt) (by omega) (by simp [framesI]) (by simp)).mono ?_
  rintro e w3 ⟨rfl, F3, hlg3, hmv⟩
  obtain ⟨hb3, hF3⟩ := hmv.belowB (B := w.heap.size) (by have := HB2.out.size; simp; omega) HF.out
  have HLG3 := Lib.hid hlg3
  have HF3 := Lib.hid hF3
  have HB3 := Lib.hid ((b_alloc HB2.out _).trans hb3)
  clear hlg3 hmv hF3 hb3 HLG2 HB2
  go_wp2_with fail
  refine (lbytes_any F3 g (framesI [[97]]) _ _ 10 _ HLG3.out (by rw [framesI_one, fr97_len]) (by omega)).mono ?_
  rw [framesI_one]
  rintro e w4 ⟨A4, c4, rfl, g1, g2, g3, hb4⟩
  have HLG4 := Lib.hid (HLG3.out.below hb4)
  have HB4 := Lib.hid (b_call HB3.out hb4)
  have R4 := Lib.hid (rd_own g3)
  have hb97 : Bytes (frameI [97]) := frameI_bytes (recs97 _ (by simp)).1 (by simp)
  have hsl := fun (W : World) => run_slice_to slBytes A4 10 c4 .i64 9 (by omega) (by omega) W
  simp only [show (9 : Int).toNat = 9 from rfl] at hsl
  unfold maxLen at g2
  clear g3 hb4 HLG3 HB3
  go_wp2_with fail
  clear hsl
  refine (open_any A4 9 c4 ((frameI [97]).take 9) (hb97.take 9) _ (by have := R4.out.take (k := 9) (by omega); rw [Nat.mul_one, ← List.map_take] at this; exact this) (by omega) (by unfold maxLen; omega) (by omega)).mono ?_
  rintro e w5 hO
  obtain ⟨g5, F5, rfl, hlg5, hF5, hb5⟩ := hO.get open97_9
  have HLG5 := Lib.hid hlg5
  have HB5 := Lib.hid (b_call HB4.out hb5)
  have R5 := Lib.hid (rd_step R4.out hb5)
  clear hO hlg5 hF5 hb5 HB4 R4
  go_wp2_with fail
  refine (open_any A4 10 c4 (frameI [97]) hb97 _ R5.out (by omega) (by unfold maxLen; omega) (by omega)).mono ?_
  rintro e w6 hO
  obtain ⟨g6, F6, rfl, hlg6, hF6, hb6⟩ := hO.get open97
  have HLG5' := Lib.hid (HLG5.out.below hb6)
  have HLG6 := Lib.hid hlg6
  have HB6 := Lib.hid (b_call HB5.out hb6)
  have R6 := Lib.hid (rd_step R5.out hb6)
  clear hO hlg6 hF6 hb6 HB5 R5 HLG5 HLG4
  obtain ⟨b0, o0, e0, hb0, hc0⟩ := R6.out.2 (by intro e; have := congrArg List.length e; rw [List.length_map, fr97_len] at this; cases this)
  have x0 := hc0 0 (.int .u8 1) (by rw [List.getElem?_map, fr97_0]; rfl)
  have x9 := hc0 9 (.int .u8 97) (by rw [List.getElem?_map, fr97_9]; rfl)
  rw [Nat.add_zero] at x0
  subst e0
  clear hc0 R6
  go_wp2_with fail
  refine (records_any F5 g5 [] 0 _ HLG5'.out rfl (by simp [framesI])).mono ?_
  rintro e w7 ⟨A7, c7, vs7, rfl, h1, h2, h3, h4, hb7⟩
  have HB7 := Lib.hid (b_call HB6.out hb7)
  have HLG7 := Lib.hid (HLG6.out.below hb7)
  clear h1 h2 h3 h4 hb7 HB6 HLG6 HLG5'
  go_wp2_with fail
  refine (records_any F6 g6 [[97]] 1 _ HLG7.out rfl (by rw [framesI_one, fr97_len]; omega)).mono ?_
  rintro e w8 ⟨A8, c8, vs8, rfl, h1, h2, h3, h4, hb8⟩
  have HB8 := Lib.hid (b_call HB7.out hb8)
  clear h1 h2 h3 h4 hb8 HB7 HLG7
  go_wp2
  go_ret
  exact ⟨rfl, HB8.out⟩
end Go.Proofs.Ytmoajnekegbncaa
