/-
  WHAT IS PROVED HERE: the contracts of the reference's Varint, Frame and Bytes. No condition but bounds that every machine's lengths meet.
-/
import Derived.Test.YtmoajnekegbncaaJnG
import Derived.Test.YtmoajnekegbncaaHbR
namespace Go.Proofs.Ytmoajnekegbncaa
set_option linter.unusedVariables false
open Go.ChangeShapes Go.WideShapes Go.ChangeAt Go.RowKit

set_option maxHeartbeats 1000000 in
theorem varint_any (N : Nat) (w : World) (h : N ≤ 16383) :
    Calls Try.prog 28 #[.int .u64 (N : Int)] w (RetSl w 5 1 (varL N) ((varI N).map (Value.int .u8))) := by
  by_cases hs : N < 128
  · have hV := Lib.hid (show varI N = [(N : Int)] from by unfold varI; rw [if_pos hs])
    have hL := Lib.hid (show varL N = 1 from by unfold varL; rw [if_pos hs])
    go_enter Try.func28, Try.ntmps28
    go_wp2
    refine wp_loop_rounds 1 ?_
    rw [rounds_succ]
    go_wp2_with (at_builtin; refine wpList_app _ rfl (.tmp 15) (.tmp 18) slBytes rfl rfl (own_nil _ w.heap.size _ _) rfl (rd_lit w _ _ rfl rfl) (by intro u hu; simp at hu; subst hu; rfl) 1 rfl (by unfold maxLen; omega) (by omega) (by simp) ?_; intro A1 c1 w1 g1 g2 g3 g4 g5)
    go_ret
    refine ⟨A1, c1, by rw [hL.out]; rfl, by rw [hL.out]; exact g1, g2, by rw [hL.out, hV.out]; exact g3, below_app (b_alloc (Below.refl _ _) _) (own_nil _ w.heap.size 5 1) g4 (Nat.le_refl _) (by simp)⟩
  · have hV := Lib.hid (show varI N = [((N % 128 + 128 : Nat) : Int), ((N / 128 : Nat) : Int)] from by unfold varI; rw [if_neg hs])
    have hL := Lib.hid (show varL N = 2 from by unfold varL; rw [if_neg hs])
    have hs' : 127 < N := by omega
    have hb1 : (N : Int) / 128 ≤ 127 := by omega
    have e1 : (128 + (N : Int) % 128) = ((N % 128 + 128 : Nat) : Int) := by omega
    go_enter Try.func28, Try.ntmps28
    go_wp2
    refine wp_loop_rounds 2 ?_
    rw [rounds_succ]
    go_wp2_with (at_builtin; refine wpList_app _ rfl (.tmp 6) (.tmp 11) slBytes rfl rfl (own_nil _ w.heap.size _ _) rfl (rd_lit w _ _ rfl rfl) (by intro u hu; simp at hu; subst hu; rfl) 1 rfl (by unfold maxLen; omega) (by omega) (by simp) ?_; intro A1 c1 w1 g1 g2 g3 g4 g5)
    rw [rounds_succ]
    have hB1 := Lib.hid (below_app (b_alloc (Below.refl _ w) _) (own_nil _ w.heap.size 5 1) g4 (Nat.le_refl _) (by simp))
    have O1 := Lib.hid g3
    clear g3 g4 g5
    go_wp2_with (at_builtin; refine wpList_app _ rfl (.tmp 15) (.tmp 18) slBytes rfl rfl (O1.out.alloc _) rfl (rd_lit w1 _ _ rfl rfl) (by intro u hu; simp at hu; subst hu; rfl) 2 rfl (by unfold maxLen; omega) (by omega) (by have := hB1.out.size; simp; omega) ?_; intro A2 c2 w2 h1 h2 h3 h4 h5)
    go_ret
    exact ⟨A2, c2, by rw [hL.out]; rfl, by rw [hL.out]; exact h1, h2, by rw [hL.out, hV.out]; exact h3, below_app (b_alloc hB1.out _) (O1.out.alloc _) h4 (Nat.le_refl _) (by have := hB1.out.size; simp; omega)⟩
theorem sum_step {s : Int} (q : Nat) : s / 2 ^ (8 * (q + 1)) = s / 2 ^ (8 * q) / 256 := by
  have e : (2 : Int) ^ (8 * (q + 1)) = 2 ^ (8 * q) * 256 := by
    rw [show 8 * (q + 1) = 8 * q + 8 from by omega, Int.pow_add]
    rfl
  rw [e, Int.ediv_ediv_of_nonneg (Int.pow_nonneg (by omega))]
theorem sum_bd {s : Int} (h0 : 0 ≤ s) (h1 : s < 18446744073709551616) (q : Nat) : 0 ≤ s / 2 ^ (8 * q) ∧ s / 2 ^ (8 * q) < 18446744073709551616 := by
  have h2 : (0 : Int) ≤ 2 ^ (8 * q) := Int.pow_nonneg (by omega)
  exact ⟨Int.ediv_nonneg h0 h2, Int.lt_of_le_of_lt (Int.ediv_le_self _ h0) h1⟩
set_option maxHeartbeats 1000000 in
theorem frame_any (A : Option Addr) (n c : Nat) (x : List Int) (hx : Bytes x) (w : World) (rd : Rd w w.heap.size 1 A n (x.map (Value.int .u8))) (hn : n ≤ 16383) :
    Calls Try.prog 20 #[.slice A n c] w (RetSl w 5 1 (frameL x) ((frameI x).map (Value.int .u8))) := by
  have hl : x.length = n := by have := rd.1; simpa using this
  have HL := Lib.hid hl
  have RD := Lib.hid rd
  have hvn : varL n ≤ 2 := by unfold varL; split <;> omega
  have HF := Lib.hid (show frameL x = varL n + 8 + n from by unfold frameL; rw [hl])
  have HFI := Lib.hid (show frameI x = varI n ++ sumB x ++ x from by unfold frameI; rw [hl, List.append_assoc])
  have hsu := sumOf_u64 x
  unfold U64 at hsu
  obtain ⟨hs0, hs1⟩ := hsu
  have HGE := Lib.hid (fun q (h : q < (sumB x).length) => sumB_get x h)
  have HBD := Lib.hid (fun q => sum_bd hs0 hs1 q)
  clear hl rd
  go_enter Try.func20, Try.ntmps20
  go_wp2_with fail
  refine (varint_any n _ hn).mono ?_
  rintro e w1 ⟨A1, c1, rfl, g1, g2, g3, hb1⟩
  have O1 := Lib.hid g3
  have R1 := Lib.hid (rd_step RD.out hb1)
  have B1 := Lib.hid hb1
  clear g3 hb1
  go_wp2_with fail
  refine (refbytes_any recTxt (by decide) x hx A n c _ R1.out (by omega)).mono ?_
  rintro e w2 ⟨rfl, hb2⟩
  rw [sumOf_eq]
  have O2 := Lib.hid (own_below O1.out hb2)
  have B2 := Lib.hid (b_call B1.out hb2)
  clear hb2 O1 R1 B1
  generalize hv : varL n = v at *
  have HV := Lib.hid hv
  clear hv
  go_wp2
  go_loopw [3, 4, 5] (fun s3 s4 s5 wr => ∃ (q : Nat) (A' : Option Addr) (c' : Nat), q ≤ 8 ∧ s5 = .int .i64 q ∧ s4 = .int .u64 (sumOf x / 2 ^ (8 * q)) ∧ s3 = .slice A' (v + q) c' ∧ Hid (wr.ownsRow w.heap.size 5 1 (.slice A' (v + q) c') (v + q) ((varI n ++ (sumB x).take q).map (Value.int .u8))) ∧ v + q ≤ c' ∧ c' ≤ maxLen ∧ Hid (Below w.heap.size w wr)) (fun _ _ i _ => 8 - (intOf i).toNat)
  case atStart => exact ⟨0, A1, c1, by omega, rfl, by simp, rfl, by rw [List.take_zero, List.append_nil]; exact O2, g1, g2, B2⟩
  case round =>
    obtain ⟨q, A', c', hq, rfl, rfl, rfl, HO, hc1, hc2, HB⟩ := hrel
    by_cases hlt : q < 8
    · have hg := HGE.out q (by rw [sumB_len]; exact hlt)
      have hbd := HBD.out q
      obtain ⟨u, hu⟩ : ∃ u, (sumB x)[q]'(by rw [sumB_len]; exact hlt) = u := ⟨_, rfl⟩
      have E1 := Lib.hid (show varI n ++ (sumB x).take (q + 1) = varI n ++ (sumB x).take q ++ [u] from by
        rw [List.take_succ_eq_append_getElem (by rw [sumB_len]; exact hlt), hu]
        simp only [List.append_assoc])
      have E2 := Lib.hid (sum_step (s := sumOf x) q)
      generalize sumOf x / 2 ^ (8 * q) = t at *
      obtain ⟨hb0, hb1⟩ := hbd
      have hg' : t % 256 = u := by rw [← hg]; exact hu
      have HOA := Lib.hid (HO.out.alloc (.cells #[.int .u8 u] 5))
      clear hg hu
      go_wp2_with (at_builtin; refine wpList_app _ rfl (.tmp 16) (.tmp 20) slBytes rfl rfl HOA.out rfl (rd_lit wr _ _ rfl rfl) (by intro u' hu'; simp at hu'; subst hu'; rfl) (v + (q + 1)) (by omega) (by unfold maxLen; omega) (by omega) (by have := HB.out.size; simp; omega) ?_; intro A3 c3 w3 h1 h2 h3 h4 h5)
      go_roundw
      case rel => exact ⟨q + 1, A3, c3, by omega, by go_num, by rw [E2.out], rfl, by rw [E1.out, List.map_append]; exact Lib.hid h3, h1, h2, Lib.hid (below_app (b_alloc HB.out _) HOA.out h4 (Nat.le_refl _) (by have := HB.out.size; simp; omega))⟩
      case measure => simp [intOf]; omega
    · obtain rfl : q = 8 := by omega
      have e8 : (sumB x).take 8 = sumB x := List.take_of_length_le (by rw [sumB_len]; omega)
      rw [e8] at HO
      clear e8 HGE HBD
      generalize sumOf x / 2 ^ (8 * 8) = t at *
      go_wp2_with (at_builtin; refine wpList_app _ rfl (.tmp 24) (.tmp 25) slBytes rfl rfl HO.out rfl (RD.out.below HB.out (Nat.le_refl _)) (ints_one _ _) (v + 8 + n) rfl (by unfold maxLen; omega) (by omega) HB.out.size ?_; intro A3 c3 w3 h1 h2 h3 h4 h5)
      go_ret
      exact ⟨A3, c3, by rw [HF.out]; rfl, by rw [HF.out]; exact h1, h2, by rw [HF.out, HFI.out, List.map_append]; exact h3, below_app HB.out HO.out h4 (Nat.le_refl _) HB.out.size⟩
theorem framesI_take_succ (recs : List (List Int)) {k : Nat} (h : k < recs.length) : framesI (recs.take (k + 1)) = framesI (recs.take k) ++ frameI recs[k] := by
  rw [List.take_succ_eq_append_getElem h, framesI_append, framesI_one]
theorem framesI_take_le {m : Nat} {recs : List (List Int)} (h : Recs m recs) (k : Nat) : (framesI (recs.take k)).length ≤ recs.length * (m + 10) :=
  Nat.le_trans (framesI_le (h.take k)) (Nat.mul_le_mul_right _ (List.length_take_le' _ _))
set_option maxHeartbeats 1000000 in
theorem refframes_any (A : Option Addr) (n c : Nat) (vs : List Value) (lo : Nat) (recs : List (List Int)) (w : World) (rd : Rd w w.heap.size 1 A n vs) (hr : Rows w lo vs recs) (hrs : Recs 4000 recs) (hn : n ≤ 100000) :
    Calls Try.prog 14 #[.slice A n c] w (RetSl w 5 1 (framesI recs).length ((framesI recs).map (Value.int .u8))) := by
  have hl : vs.length = n := by have := rd.1; simpa using this
  have hl2 : recs.length = n := by rw [← hr.1]; exact hl
  have HL2 := Lib.hid hl2
  have RD := Lib.hid rd
  have HR := Lib.hid hr
  have HRS := Lib.hid hrs
  have HTL := Lib.hid (fun k => framesI_take_le hrs k)
  clear rd hr hrs hl hl2
  go_enter Try.func14, Try.ntmps14
  go_wp2
  go_loopw [3, 4] (fun s3 s4 wr => ∃ (k N : Nat) (A' : Option Addr) (c' : Nat), k ≤ n ∧ s4 = .int .i64 k ∧ s3 = .slice A' N c' ∧ Hid ((framesI (recs.take k)).length = N) ∧ Hid (wr.ownsRow w.heap.size 5 1 (.slice A' N c') N ((framesI (recs.take k)).map (Value.int .u8))) ∧ N ≤ c' ∧ c' ≤ maxLen ∧ Hid (Below w.heap.size w wr)) (fun _ i _ => n - (intOf i).toNat)
  case atStart => exact ⟨0, 0, none, 0, by omega, rfl, rfl, rfl, Lib.hid (own_nil _ _ _ _), by omega, by simp [maxLen], Lib.hid (Below.refl _ _)⟩
  case round =>
    obtain ⟨k, N, A', c', hk, rfl, rfl, HN, HO, hc1, hc2, HB⟩ := hrel
    have hNb : N ≤ 401000000 := by
      have h := HTL.out k
      rw [HN.out, HL2.out] at h
      exact Nat.le_trans h (Nat.le_trans (Nat.mul_le_mul_right _ hn) (by decide))
    by_cases hlt : k < n
    · obtain ⟨b, o, rfl, hb, hcell⟩ := (RD.out.below HB.out (Nat.le_refl _)).open1 hlt
      have hkr : k < recs.length := by rw [HL2.out]; exact hlt
      have hkv : k < vs.length := by have := HR.out.1; omega
      obtain ⟨A1, c1, hv, g1, g2, rd1, hlo⟩ := (HR.out.2 k vs[k] recs[k] (List.getElem?_eq_getElem hkv) (List.getElem?_eq_getElem hkr)).rd
      rw [hv] at hcell
      have HTS := Lib.hid (framesI_take_succ recs hkr)
      have hm := HRS.out recs[k] (List.getElem_mem hkr)
      have RD1 := Lib.hid (rd1.below HB.out (Nat.le_refl _))
      obtain ⟨x, hx⟩ : ∃ x, recs[k] = x := ⟨_, rfl⟩
      rw [hx] at hcell HTS hm RD1 g1
      obtain ⟨hxb, hxl⟩ := hm
      have HXB := Lib.hid hxb
      have hfl := frameL_bd x
      obtain ⟨ln, hln⟩ : ∃ ln, x.length = ln := ⟨_, rfl⟩
      rw [hln] at hcell RD1 hxl g1 hfl
      obtain ⟨fl, hfe⟩ : ∃ fl, frameL x = fl := ⟨_, rfl⟩
      have HFE := Lib.hid hfe
      rw [hfe] at hfl
      clear hv rd1 hlo hx hkr hkv hxb hln hfe
      go_wp2_with fail
      refine (frame_any A1 ln c1 x HXB.out _ (RD1.out.more HB.out.size) (by omega)).mono ?_
      rw [HFE.out]
      rintro e w1 ⟨A2, c2, rfl, h1, h2, h3, hb1⟩
      have HOB := Lib.hid (own_below HO.out hb1)
      have HB1 := Lib.hid (b_call HB.out hb1)
      go_wp2_with (at_builtin; refine wpList_app _ rfl (.tmp 11) (.tmp 16) slBytes rfl rfl HOB.out rfl (rd_own h3) (ints_one _ _) (N + fl) rfl (by unfold maxLen; omega) (by omega) HB1.out.size ?_; intro A3 c3 w3 k1 k2 k3 k4 k5)
      go_roundw
      case rel => exact ⟨k + 1, N + fl, A3, c3, by omega, by go_num, rfl, Lib.hid (by rw [HTS.out, List.length_append, frameI_len, HN.out, HFE.out]), by rw [HTS.out, List.map_append]; exact Lib.hid k3, k1, k2, Lib.hid (below_app HB1.out HOB.out k4 (Nat.le_refl _) HB1.out.size)⟩
      case measure => simp [intOf]; omega
    · obtain rfl : n = k := by omega
      have HT := Lib.hid (show recs.take n = recs from List.take_of_length_le (by rw [HL2.out]; omega))
      rw [HT.out] at HN HO
      go_wp2
      go_ret
      exact ⟨A', c', by rw [HN.out]; rfl, by rw [HN.out]; exact hc1, hc2, by rw [HN.out]; exact HO.out, HB.out⟩
end Go.Proofs.Ytmoajnekegbncaa
