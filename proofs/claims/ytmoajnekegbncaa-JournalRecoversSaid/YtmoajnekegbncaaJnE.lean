/-
  WHAT IS PROVED HERE: the contracts of journal's add and Append. Conditions: the log lies in memory as stated, the record is of bytes, outside of the log's memory, and not too long.
-/
import Derived.Test.YtmoajnekegbncaaJnD
namespace Go.Proofs.Ytmoajnekegbncaa
set_option linter.unusedVariables false
open Go.ChangeShapes Go.WideShapes Go.ChangeAt Go.RowKit

/-- What add leaves. -/
def AddRet (w : World) (F : Nat → Prop) (g : Nat) (recs : List (List Int)) (w' : World) : Prop := ∃ F', Lg w' F' g recs ∧ Mv w w' F F'
theorem or128' {n : Nat} : bits .or .u8 ((n : Int) % 256) 128 = ((n % 128 + 128 : Nat) : Int) := by
  rw [or128 (by omega) (by omega)]
  omega
def varPre (n : Nat) : List Int := if n < 128 then [] else [((n % 128 + 128 : Nat) : Int)]
def varLast (n : Nat) : Nat := if n < 128 then n else n / 128
theorem varI_split (n : Nat) : varI n = varPre n ++ [(varLast n : Int)] := by
  unfold varI varPre varLast
  split <;> rfl
set_option maxRecDepth 100000 in
set_option maxHeartbeats 2000000 in
theorem add_any (F : Nat → Prop) (g : Nat) (recs : List (List Int)) (A2 : Option Addr) (c2 : Nat) (x : List Int) (w : World) (h : Lg w F g recs) (hx : Bytes x) (rd : RdF w F A2 x.length x) (hxl : x.length ≤ 4000) (hD : (framesI recs).length ≤ 1000000000000) (hm : recs.length ≤ 1000000000000) :
    Calls Try.prog 27 #[.pointer (some ⟨g, 0, none⟩), .slice A2 x.length c2] w fun e w' => e = .returned (.tuple #[]) ∧ AddRet w F g (recs ++ [x]) w' := by
  have HG := Lib.hid h
  unfold Lg at h
  have HSP := Lib.hid (spansV_snoc 0 recs x)
  have HLF := Lib.hid (frameL_bd x)
  obtain ⟨D, hDe⟩ : ∃ D, framesI recs = D := ⟨_, rfl⟩
  obtain ⟨S, hSe⟩ : ∃ S, spansV 0 recs = S := ⟨_, rfl⟩
  obtain ⟨m, hme⟩ : ∃ m, recs.length = m := ⟨_, rfl⟩
  obtain ⟨N, hN⟩ : ∃ N, x.length = N := ⟨_, rfl⟩
  rw [hDe, hSe, hme] at h
  rw [hN] at rd hxl ⊢
  rw [hme] at hm
  rw [hDe] at hD
  have HN := Lib.hid hN
  have HDe := Lib.hid hDe
  have HSe := Lib.hid hSe
  have Hme := Lib.hid hme
  have H := Lib.hid h
  have RF := Lib.hid rd
  have hlt : g < w.heap.size := by
    obtain ⟨n, A, c, B, d, h⟩ := h
    exact h.lt g h.fg
  clear h rd hN hDe hSe hme
  go_enter Try.func27, Try.ntmps27
  go_upto_block 0 with (fail)
  go_cut [4] from 10 to 25 (fun s4 wx => ∃ F1, s4 = .int .i64 (varLast N) ∧ Hid (Lq wx F1 g (D ++ varPre N) S m) ∧ Hid (Mv w wx F F1))
  case first =>
    obtain ⟨n, A, c, B, d, h⟩ := H.out
    have z0 := h.V.cell 0
    have f0 := h.V.frozen 0
    have hc1 := h.hc
    have hc2 := h.hcm
    have HX := Lib.hid h
    clear h
    by_cases hs : N < 128
    · go_wp2
      refine wp_loop_rounds 1 ?_
      rw [rounds_succ]
      go_wp2
      go_meet
      case rel => exact ⟨F, by unfold varLast; rw [if_pos hs], by unfold varPre; rw [if_pos hs, List.append_nil]; exact H, Lib.hid (Mv.refl _ _)⟩
    · have hs' : 128 ≤ N := by omega
      have hs2 : ¬ 128 ≤ (N : Int) / 128 := by omega
      have o1 : bits .or .u8 ((N : Int) % 256) 128 = ((N % 128 + 128 : Nat) : Int) := or128'
      have HP := Lib.hid (show varPre N = [((N % 128 + 128 : Nat) : Int)] from by unfold varPre; rw [if_neg hs])
      have HV := Lib.hid (show varLast N = N / 128 from by unfold varLast; rw [if_neg hs])
      clear hs
      have hD1 : n ≤ 1000000000000 := by rw [← HX.out.hn]; exact hD
      go_wp2
      refine wp_loop_rounds 2 ?_
      rw [rounds_succ]
      have HOW := Lib.hid (HX.out.own.alloc (.cells #[.int .u8 ((N % 128 + 128 : Nat) : Int)] 5))
      go_wp2_with (at_builtin; refine wpList_app _ rfl (.tmp 18) (.tmp 22) slBytes rfl rfl HOW.out rfl (rd_lit w _ _ rfl rfl) (by intro u hu; simp at hu; subst hu; rfl) (n + 1) rfl (by unfold maxLen; omega) (by omega) (by simp) ?_; intro A1 c1 w1 g1 g2 g3 g4 g5; have V1 := HX.out.Va (b_alloc (Below.refl _ _) _) g4; have x0 := V1.cell 0; have x1 := V1.frozen 0; have x2 := V1.lt)
      clear HOW
      rw [rounds_succ]
      go_wp2
      go_meet
      case rel =>
        obtain ⟨k1, k2⟩ := HX.out.app (b_alloc (Below.refl _ _) _) (varPre N) (n1 := n + 1) (by rw [HP.out]; rfl) g1 g2 (by rw [HP.out]; exact g3) g4 g5
        exact ⟨_, by rw [HV.out]; go_num, Lib.hid ⟨_, _, _, _, _, k1⟩, Lib.hid k2⟩
  case rest =>
    obtain ⟨F1, rfl, HQ, HM⟩ := hcut
    have hv1 : varLast N < 128 := by unfold varLast; split <;> omega
    obtain ⟨n, A, c, B, d, h⟩ := HQ.out
    have z0 := h.V.cell 0
    have f0 := h.V.frozen 0
    have hc1 := h.hc
    have hc2 := h.hcm
    have hlc := h.lt g h.fg
    have HX := Lib.hid h
    clear h HQ
    obtain ⟨v, hv⟩ : ∃ v, varLast N = v := ⟨_, rfl⟩
    rw [hv] at hv1 ⊢
    have HVL := Lib.hid hv
    have hD1 : n ≤ 1000000000001 := by
      rw [← HX.out.hn, List.length_append]
      unfold varPre
      split <;> simp <;> omega
    have HOW := Lib.hid (HX.out.own.alloc (.cells #[.int .u8 (v : Int)] 5))
    clear hv
    go_upto_region 5 with (at_builtin; refine wpList_app _ rfl (.tmp 30) (.tmp 33) slBytes rfl rfl HOW.out rfl (rd_lit wc _ _ rfl rfl) (by intro u hu; simp at hu; subst hu; rfl) (n + 1) rfl (by unfold maxLen; omega) (by omega) (by simp) ?_; intro A1 c1 w1 g1 g2 g3 g4 g5; have V1 := HX.out.Va (b_alloc (Below.refl _ _) _) g4; have x0 := V1.cell 0; have x1 := V1.frozen 0; have x2 := V1.lt)
    clear HOW
    obtain ⟨k1, k2⟩ := HX.out.app (b_alloc (Below.refl _ _) _) [(v : Int)] (n1 := n + 1) rfl g1 g2 g3 g4 g5
    have e1 : D ++ varPre N ++ [(v : Int)] = D ++ varI N := by rw [varI_split, HVL.out, List.append_assoc]
    rw [e1] at k1
    have HM2 := Lib.hid (HM.out.trans k2)
    have RF2 := Lib.hid (RF.out.mv HM2.out)
    have HX2 := Lib.hid k1
    clear k1 k2 e1 g1 g2 g3 g4 g5 HX HM V1 x0 x1 x2 z0 f0
    refine name_world ?_
    intro X hX
    rw [← hX] at HM2 RF2 HX2
    clear hX
    go_wp2_with fail
    refine (bytes_any recTxt (by decide) x hx _ N c2 (by omega) _ RF2.out.1).mono ?_
    rintro e w3 ⟨rfl, hb3⟩
    rw [sumOf_eq]
    have HQ3 := Lib.hid (show Lq w3 _ g (D ++ varI N) S m from ⟨_, _, _, _, _, HX2.out.below hb3⟩)
    have HM3 := Lib.hid (HM2.out.trans (Mv.of_below hb3))
    have RF3 := Lib.hid (RF.out.mv HM3.out)
    have hsu := sumOf_u64 x
    have hge := fun q (h : q < (sumB x).length) => sumB_get x h
    have HGE := Lib.hid hge
    unfold U64 at hsu
    obtain ⟨hs0, hs1⟩ := hsu
    clear hb3 HM2 RF2 HX2 hge
    go_wp2
    go_loopw [39] (fun i wr => ∃ (q : Nat) (F3 : Nat → Prop), q ≤ 8 ∧ i = .int .i64 q ∧ Hid (Lq wr F3 g (D ++ varI N ++ (sumB x).take q) S m) ∧ Hid (Mv w wr F F3)) (fun i _ => 8 - (intOf i).toNat)
    case atStart => exact ⟨0, _, by omega, rfl, by rw [List.take_zero, List.append_nil]; exact HQ3, HM3⟩
    case round =>
      clear HQ3 HM3 RF3
      obtain ⟨q, F3, hq, rfl, HQ, HM⟩ := hrel
      obtain ⟨n5, A5, c5, B5, d5, h⟩ := HQ.out
      have z0 := h.V.cell 0
      have f0 := h.V.frozen 0
      have hc1 := h.hc
      have hc2 := h.hcm
      have hlc := h.lt g h.fg
      have HX := Lib.hid h
      have hD1 : n5 ≤ 1000000000010 := by
        rw [← h.hn, List.length_append, List.length_append, varI_len]
        have : varL N ≤ 2 := by unfold varL; split <;> omega
        have : ((sumB x).take q).length ≤ 8 := by rw [List.length_take, sumB_len]; omega
        omega
      clear h HQ
      by_cases hlt : q < 8
      · have hg := HGE.out q (by rw [sumB_len]; exact hlt)
        obtain ⟨u, hu⟩ : ∃ u, (sumB x)[q]'(by rw [sumB_len]; exact hlt) = u := ⟨_, rfl⟩
        have E1 := Lib.hid (show D ++ varI N ++ (sumB x).take (q + 1) = D ++ varI N ++ (sumB x).take q ++ [u] from by
          rw [List.take_succ_eq_append_getElem (by rw [sumB_len]; exact hlt), hu]
          simp only [List.append_assoc])
        have hg' : sumOf x / 2 ^ (8 * q) % 256 = u := by rw [← hg]; exact hu
        clear hg hu
        go_wp2
        have HXd := Lib.hid (HX.out.below (b_drew (Below.refl _ _)))
        have HMd := Lib.hid (HM.out.drew)
        clear HX HM
        have HX := HXd
        have HM := HMd
        clear HXd HMd
        have HOW := Lib.hid (show ((wr.alloc (.cells #[.int .u8 u] 5)).drew).ownsRow 0 5 1 (.slice A5 n5 c5) n5 _ from HX.out.own.alloc (.cells #[.int .u8 u] 5))
        have hw9 : IntKind.u8.wrap (sumOf x / 2 ^ (8 * (q : Int)).toNat) = u := by
          rw [show (8 * (q : Int)).toNat = 8 * q from by omega, IntKind.wrap_u8]
          exact hg'
        have hw8 : IntKind.i64.wrap (8 * (q : Int)) = 8 * (q : Int) := IntWalk.i64_in _ (by omega)
        refine wp_region_any (by kernel_rfl) ?_
        change wpAny _ _ _ _ _ _ _ (World.drew _)
        refine take_at (i := 0) (some 42) (v := ?vg2) rfl rfl (by kernel_rfl) (by kernel_rfl) (by kernel_rfl) (fun _ _ _ h => h) (Or.inl ⟨by rfl, ?hg2⟩) ?rg2
        case hg2 => (intro w0; go_simp; try with_reducible rfl)
        simp only [Act.put, List.setIfInBounds_toArray, List.set_cons_zero, List.set_cons_succ]
        refine take_at (i := 1) (some 43) (v := ?vg3) rfl rfl (by kernel_rfl) (by kernel_rfl) (by kernel_rfl) (fun _ _ _ h => h) (Or.inl ⟨by rfl, ?hg3⟩) ?rg3
        case hg3 => (intro w0; go_simp; try with_reducible rfl)
        simp only [Act.put, List.setIfInBounds_toArray, List.set_cons_zero, List.set_cons_succ]
        refine take_at (i := 2) (some 44) (v := ?vg4) rfl rfl (by kernel_rfl) (by kernel_rfl) (by kernel_rfl) (fun _ _ _ h => h) (Or.inl ⟨by rfl, ?hg4⟩) ?rg4
        case hg4 => (intro w0; go_simp; try with_reducible rfl)
        simp only [Act.put, List.setIfInBounds_toArray, List.set_cons_zero, List.set_cons_succ]
        refine take_at (i := 3) (some 45) (v := ?vg5) rfl rfl (by kernel_rfl) (by kernel_rfl) (by kernel_rfl) (fun _ _ _ h => h) (Or.inl ⟨by rfl, ?hg5⟩) ?rg5
        case hg5 => (intro w0; go_simp; try with_reducible rfl)
        simp only [Act.put, List.setIfInBounds_toArray, List.set_cons_zero, List.set_cons_succ]
        refine take_at (i := 5) (some 47) (v := ?vg6) rfl rfl (by kernel_rfl) (by kernel_rfl) (by kernel_rfl) (fun _ _ _ h => h) (Or.inl ⟨by rfl, ?hg6⟩) ?rg6
        case hg6 => (intro w0; go_simp; try with_reducible rfl)
        simp only [Act.put, List.setIfInBounds_toArray, List.set_cons_zero, List.set_cons_succ]
        refine take_at (i := 6) (some 48) (v := ?vg7) rfl rfl (by kernel_rfl) (by kernel_rfl) (by kernel_rfl) (fun _ _ _ h => h) (Or.inl ⟨by rfl, ?hg7⟩) ?rg7
        case hg7 => (intro w0; go_simp; try with_reducible rfl)
        simp only [Act.put, List.setIfInBounds_toArray, List.set_cons_zero, List.set_cons_succ]
        refine take_at (i := 7) (some 49) (v := ?vg8) rfl rfl (by kernel_rfl) (by kernel_rfl) (by kernel_rfl) (fun _ _ _ h => h) (Or.inl ⟨by rfl, ?hg8⟩) ?rg8
        case hg8 => (intro w0; go_simp; try with_reducible rfl)
        simp only [Act.put, List.setIfInBounds_toArray, List.set_cons_zero, List.set_cons_succ]
        refine take_at (i := 8) (some 50) (v := ?vg9) rfl rfl (by kernel_rfl) (by kernel_rfl) (by kernel_rfl) (fun _ _ _ h => h) (Or.inl ⟨by rfl, ?hg9⟩) ?rg9
        case hg9 => (intro w0; go_simp; try with_reducible rfl)
        simp only [Act.put, List.setIfInBounds_toArray, List.set_cons_zero, List.set_cons_succ]
        refine take_at (i := 9) (some 51) (v := ?vg10) rfl rfl (by kernel_rfl) (by kernel_rfl) (by kernel_rfl) (fun _ _ _ h => h) (Or.inl ⟨by rfl, ?hg10⟩) ?rg10
        case hg10 => (intro w0; go_simp; try with_reducible rfl)
        simp only [Act.put, List.setIfInBounds_toArray, List.set_cons_zero, List.set_cons_succ]
        clear hw9 hw8 hg'
        refine wpAny_ready (rs := [4, 10]) (by kernel_rfl) (by simp) ?_
        refine AllReady.cons (o := _) rfl (fun K hK => ?_) (AllReady.cons (o := _) rfl (fun K hK => ?_) AllReady.nil)
        · go_simp
          refine hK _ _ ?_
          clear hK K
          refine wpAny_ready (rs := [10]) (by kernel_rfl) (by simp) ?_
          refine AllReady.cons (o := _) rfl (fun K hK => ?_) AllReady.nil
          go_simp
          refine hK _ _ ?_
          clear hK K
          refine wpAny_ready (rs := [11]) (by kernel_rfl) (by simp) ?_
          refine AllReady.cons (o := _) rfl (fun K hK => ?_) AllReady.nil
          refine step_app2 _ 53 rfl rfl (.tmp 46) (.tmp 52) slBytes rfl (v := .slice A5 n5 c5) rfl HOW.out rfl (rd_lit wr.drew _ _ rfl rfl) (by intro u' hu'; simp at hu'; subst hu'; rfl) (n5 + 1) rfl (by unfold maxLen; omega) (by omega) (by simp) ?_
          intro A1 c1 w1 g1 g2 g3 g4 g5
          refine hK _ _ ?_
          clear hK K
          have V1 := HX.out.Va (b_alloc (Below.refl _ _) _) g4
          have x0 := V1.cell 0
          have x1 := V1.frozen 0
          have x2 := V1.lt
          simp only [Act.put, List.setIfInBounds_toArray, List.set_cons_zero, List.set_cons_succ]
          refine take_at (i := 12) (some 54) (v := ?vg15) rfl rfl (by kernel_rfl) (by kernel_rfl) (by kernel_rfl) (fun _ _ _ h => h) (Or.inl ⟨by rfl, ?hg15⟩) ?rg15
          case hg15 => (intro w0; go_simp; try with_reducible rfl)
          simp only [Act.put, List.setIfInBounds_toArray, List.set_cons_zero, List.set_cons_succ]
          refine take_at (i := 13) (some 55) (v := ?vg16) rfl rfl (by kernel_rfl) (by kernel_rfl) (by kernel_rfl) (fun _ _ _ h => h) (Or.inl ⟨by rfl, ?hg16⟩) ?rg16
          case hg16 => (intro w0; go_simp; try with_reducible rfl)
          simp only [Act.put, List.setIfInBounds_toArray, List.set_cons_zero, List.set_cons_succ]
          refine wpAny_ready (rs := [14]) (by kernel_rfl) (by simp) ?_
          refine AllReady.cons (o := _) rfl (fun K hK => ?_) AllReady.nil
          go_simp
          refine hK _ _ ?_
          clear hK K
          refine wpAny_done (by kernel_rfl) ?_ _
          obtain ⟨k1, k2⟩ := HX.out.app (b_alloc (Below.refl _ _) _) [u] (n1 := n5 + 1) rfl g1 g2 g3 g4 g5
          rw [← E1.out] at k1
          clear V1 x0 x1 x2 g1 g2 g3 g4 g5
          go_wp2
          go_roundw
          case rel => exact ⟨q + 1, _, by omega, by go_num, Lib.hid ⟨_, _, _, _, _, k1⟩, Lib.hid (HM.out.trans k2)⟩
          case measure => simp [intOf]; omega
        · go_simp
          refine hK _ _ ?_
          clear hK K
          refine wpAny_ready (rs := [4]) (by kernel_rfl) (by simp) ?_
          refine AllReady.cons (o := _) rfl (fun K hK => ?_) AllReady.nil
          go_simp
          refine hK _ _ ?_
          clear hK K
          refine wpAny_ready (rs := [11]) (by kernel_rfl) (by simp) ?_
          refine AllReady.cons (o := _) rfl (fun K hK => ?_) AllReady.nil
          refine step_app2 _ 53 rfl rfl (.tmp 46) (.tmp 52) slBytes rfl (v := .slice A5 n5 c5) rfl HOW.out rfl (rd_lit wr.drew _ _ rfl rfl) (by intro u' hu'; simp at hu'; subst hu'; rfl) (n5 + 1) rfl (by unfold maxLen; omega) (by omega) (by simp) ?_
          intro A1 c1 w1 g1 g2 g3 g4 g5
          refine hK _ _ ?_
          clear hK K
          have V1 := HX.out.Va (b_alloc (Below.refl _ _) _) g4
          have x0 := V1.cell 0
          have x1 := V1.frozen 0
          have x2 := V1.lt
          simp only [Act.put, List.setIfInBounds_toArray, List.set_cons_zero, List.set_cons_succ]
          refine take_at (i := 12) (some 54) (v := ?vg23) rfl rfl (by kernel_rfl) (by kernel_rfl) (by kernel_rfl) (fun _ _ _ h => h) (Or.inl ⟨by rfl, ?hg23⟩) ?rg23
          case hg23 => (intro w0; go_simp; try with_reducible rfl)
          simp only [Act.put, List.setIfInBounds_toArray, List.set_cons_zero, List.set_cons_succ]
          refine take_at (i := 13) (some 55) (v := ?vg24) rfl rfl (by kernel_rfl) (by kernel_rfl) (by kernel_rfl) (fun _ _ _ h => h) (Or.inl ⟨by rfl, ?hg24⟩) ?rg24
          case hg24 => (intro w0; go_simp; try with_reducible rfl)
          simp only [Act.put, List.setIfInBounds_toArray, List.set_cons_zero, List.set_cons_succ]
          refine wpAny_ready (rs := [14]) (by kernel_rfl) (by simp) ?_
          refine AllReady.cons (o := _) rfl (fun K hK => ?_) AllReady.nil
          go_simp
          refine hK _ _ ?_
          clear hK K
          refine wpAny_done (by kernel_rfl) ?_ _
          obtain ⟨k1, k2⟩ := HX.out.app (b_alloc (Below.refl _ _) _) [u] (n1 := n5 + 1) rfl g1 g2 g3 g4 g5
          rw [← E1.out] at k1
          clear V1 x0 x1 x2 g1 g2 g3 g4 g5
          go_wp2
          go_roundw
          case rel => exact ⟨q + 1, _, by omega, by go_num, Lib.hid ⟨_, _, _, _, _, k1⟩, Lib.hid (HM.out.trans k2)⟩
          case measure => simp [intOf]; omega
      · obtain rfl : q = 8 := by omega
        have e8 : (sumB x).take 8 = sumB x := List.take_of_length_le (by rw [sumB_len]; omega)
        rw [e8] at HX
        clear HGE hc1 hc2 e8
        have RF5 := Lib.hid (RF.out.mv HM.out)
        have hD5 : n5 ≤ 1000000000010 := hD1
        go_upto_region 13 with (at_builtin; refine wpList_app _ rfl (.tmp 66) (.tmp 67) slBytes rfl rfl HX.out.own rfl RF5.out.1 (ints_one _ _) (n5 + N) rfl (by unfold maxLen; omega) (by omega) (by simp) ?_; intro A6 c6 w6 g1 g2 g3 g4 g5; have V1 := HX.out.Va (Below.refl _ _) g4; have x0 := V1.cell 0; have x1 := V1.frozen 0; have x2 := V1.lt)
        obtain ⟨k1, k2⟩ := HX.out.app (Below.refl _ _) x (n1 := n5 + N) (by rw [HN.out]) g1 g2 g3 g4 g5
        have HFR := Lib.hid (show framesI (recs ++ [x]) = D ++ varI N ++ sumB x ++ x from by
          rw [framesI_append, framesI_one, HDe.out]
          unfold frameI
          rw [HN.out]
          simp only [List.append_assoc])
        have HSPN := Lib.hid (show spansV 0 (recs ++ [x]) = S ++ [.int .i64 (n5 : Int), .int .i64 ((n5 + N : Nat) : Int)] from by
          have hn5 : n5 = D.length + varL N + 8 := by
            rw [← HX.out.hn, List.length_append, List.length_append, varI_len, sumB_len]
          rw [HSP.out, HSe.out, HDe.out, HN.out]
          unfold frameL
          rw [HN.out, Nat.zero_add, hn5]
          simp only [Nat.add_assoc])
        have HM6 := Lib.hid (HM.out.trans k2)
        have HX6 := Lib.hid k1
        clear k1 k2 g1 g2 g3 g4 g5 HX HM V1 x0 x1 x2 z0 f0 RF5
        refine name_world ?_
        intro X hX
        rw [← hX] at HM6 HX6
        clear hX
        have z0 := HX6.out.V.cell 0
        have z1 := HX6.out.V.cell 1
        have f0 := HX6.out.V.frozen 1
        have hlx := HX6.out.lt g HX6.out.fg
        have HXd := Lib.hid (HX6.out.below (b_drew (Below.refl _ _)))
        have HMd := Lib.hid (HM6.out.drew)
        clear HX6 HM6
        have HX6 := HXd
        have HM6 := HMd
        clear HXd HMd
        have HSW := Lib.hid (show ((X.alloc (.cells #[.int .i64 (n5 : Int), .int .i64 ((n5 + N : Nat) : Int)] 58)).drew).ownsRow 0 58 2 (.slice B5 m d5) m S from HX6.out.sp.alloc _)
        refine wp_region_any (by kernel_rfl) ?_
        change wpAny _ _ _ _ _ _ _ (World.drew _)
        refine take_at (i := 0) (some 71) (v := ?vg29) rfl rfl (by kernel_rfl) (by kernel_rfl) (by kernel_rfl) (fun _ _ _ h => h) (Or.inl ⟨by rfl, ?hg29⟩) ?rg29
        case hg29 => (intro w0; go_simp; try with_reducible rfl)
        simp only [Act.put, List.setIfInBounds_toArray, List.set_cons_zero, List.set_cons_succ]
        refine take_at (i := 1) (some 72) (v := ?vg30) rfl rfl (by kernel_rfl) (by kernel_rfl) (by kernel_rfl) (fun _ _ _ h => h) (Or.inl ⟨by rfl, ?hg30⟩) ?rg30
        case hg30 => (intro w0; go_simp; try with_reducible rfl)
        simp only [Act.put, List.setIfInBounds_toArray, List.set_cons_zero, List.set_cons_succ]
        refine take_at (i := 2) (some 73) (v := ?vg31) rfl rfl (by kernel_rfl) (by kernel_rfl) (by kernel_rfl) (fun _ _ _ h => h) (Or.inl ⟨by rfl, ?hg31⟩) ?rg31
        case hg31 => (intro w0; go_simp; try with_reducible rfl)
        simp only [Act.put, List.setIfInBounds_toArray, List.set_cons_zero, List.set_cons_succ]
        refine take_at (i := 3) (some 74) (v := ?vg32) rfl rfl (by kernel_rfl) (by kernel_rfl) (by kernel_rfl) (fun _ _ _ h => h) (Or.inl ⟨by rfl, ?hg32⟩) ?rg32
        case hg32 => (intro w0; go_simp; try with_reducible rfl)
        simp only [Act.put, List.setIfInBounds_toArray, List.set_cons_zero, List.set_cons_succ]
        refine take_at (i := 5) (some 76) (v := ?vg33) rfl rfl (by kernel_rfl) (by kernel_rfl) (by kernel_rfl) (fun _ _ _ h => h) (Or.inl ⟨by rfl, ?hg33⟩) ?rg33
        case hg33 => (intro w0; go_simp; try with_reducible rfl)
        simp only [Act.put, List.setIfInBounds_toArray, List.set_cons_zero, List.set_cons_succ]
        refine take_at (i := 6) (some 77) (v := ?vg34) rfl rfl (by kernel_rfl) (by kernel_rfl) (by kernel_rfl) (fun _ _ _ h => h) (Or.inl ⟨by rfl, ?hg34⟩) ?rg34
        case hg34 => (intro w0; go_simp; try with_reducible rfl)
        simp only [Act.put, List.setIfInBounds_toArray, List.set_cons_zero, List.set_cons_succ]
        refine take_at (i := 7) (some 78) (v := ?vg35) rfl rfl (by kernel_rfl) (by kernel_rfl) (by kernel_rfl) (fun _ _ _ h => h) (Or.inl ⟨by rfl, ?hg35⟩) ?rg35
        case hg35 => (intro w0; go_simp; try with_reducible rfl)
        simp only [Act.put, List.setIfInBounds_toArray, List.set_cons_zero, List.set_cons_succ]
        refine take_at (i := 8) (some 79) (v := ?vg36) rfl rfl (by kernel_rfl) (by kernel_rfl) (by kernel_rfl) (fun _ _ _ h => h) (Or.inl ⟨by rfl, ?hg36⟩) ?rg36
        case hg36 => (intro w0; go_simp; try with_reducible rfl)
        simp only [Act.put, List.setIfInBounds_toArray, List.set_cons_zero, List.set_cons_succ]
        refine wpAny_ready (rs := [4, 9]) (by kernel_rfl) (by simp) ?_
        refine AllReady.cons (o := _) rfl (fun K hK => ?_) (AllReady.cons (o := _) rfl (fun K hK => ?_) AllReady.nil)
        · go_simp
          refine hK _ _ ?_
          clear hK K
          refine wpAny_ready (rs := [9]) (by kernel_rfl) (by simp) ?_
          refine AllReady.cons (o := _) rfl (fun K hK => ?_) AllReady.nil
          go_simp
          refine hK _ _ ?_
          clear hK K
          refine take_at (i := 10) (some 81) (v := ?vg38) rfl rfl (by kernel_rfl) (by kernel_rfl) (by kernel_rfl) (fun _ _ _ h => h) (Or.inl ⟨by rfl, ?hg38⟩) ?rg38
          case hg38 => (intro w0; go_simp; try with_reducible rfl)
          simp only [Act.put, List.setIfInBounds_toArray, List.set_cons_zero, List.set_cons_succ]
          refine take_at (i := 11) (some 82) (v := ?vg39) rfl rfl (by kernel_rfl) (by kernel_rfl) (by kernel_rfl) (fun _ _ _ h => h) (Or.inl ⟨by rfl, ?hg39⟩) ?rg39
          case hg39 => (intro w0; go_simp; try with_reducible rfl)
          simp only [Act.put, List.setIfInBounds_toArray, List.set_cons_zero, List.set_cons_succ]
          refine wpAny_ready (rs := [12]) (by kernel_rfl) (by simp) ?_
          refine AllReady.cons (o := _) rfl (fun K hK => ?_) AllReady.nil
          refine step_build2 83 rfl rfl (.tmp 82) slSpans rfl (by omega) #[.int .i64 (n5 : Int), .int .i64 ((n5 + N : Nat) : Int)] rfl rfl ?_
          refine hK _ _ ?_
          clear hK K
          simp only [Act.put, List.setIfInBounds_toArray, List.set_cons_zero, List.set_cons_succ]
          refine wpAny_ready (rs := [13]) (by kernel_rfl) (by simp) ?_
          refine AllReady.cons (o := _) rfl (fun K hK => ?_) AllReady.nil
          refine step_app2 _ 84 rfl rfl (.tmp 75) (.tmp 83) slSpans rfl (v := .slice B5 m d5) rfl HSW.out rfl (rd_lit X.drew _ _ rfl rfl) (by intro u' hu'; simp at hu'; rcases hu' with rfl | rfl <;> rfl) (m + 1) rfl (by unfold maxLen; omega) (by omega) (by simp) ?_
          intro A7 c7 w7 h1 h2 h3 h4 h5
          refine hK _ _ ?_
          clear hK K
          have V2 := HX6.out.Vb (b_alloc (Below.refl _ _) _) h4
          have y0 := V2.cell 1
          have y1 := V2.frozen 1
          have y2 := V2.lt
          simp only [Act.put, List.setIfInBounds_toArray, List.set_cons_zero, List.set_cons_succ]
          refine take_at (i := 14) (some 85) (v := ?vg44) rfl rfl (by kernel_rfl) (by kernel_rfl) (by kernel_rfl) (fun _ _ _ h => h) (Or.inl ⟨by rfl, ?hg44⟩) ?rg44
          case hg44 => (intro w0; go_simp; try with_reducible rfl)
          simp only [Act.put, List.setIfInBounds_toArray, List.set_cons_zero, List.set_cons_succ]
          refine take_at (i := 15) (some 86) (v := ?vg45) rfl rfl (by kernel_rfl) (by kernel_rfl) (by kernel_rfl) (fun _ _ _ h => h) (Or.inl ⟨by rfl, ?hg45⟩) ?rg45
          case hg45 => (intro w0; go_simp; try with_reducible rfl)
          simp only [Act.put, List.setIfInBounds_toArray, List.set_cons_zero, List.set_cons_succ]
          refine wpAny_ready (rs := [16]) (by kernel_rfl) (by simp) ?_
          refine AllReady.cons (o := _) rfl (fun K hK => ?_) AllReady.nil
          go_simp
          refine hK _ _ ?_
          clear hK K
          refine wpAny_done (by kernel_rfl) ?_ _
          obtain ⟨k3, k4⟩ := HX6.out.spn (b_alloc (Below.refl _ _) _) _ h1 h2 h3 h4 h5
          go_wp2
          go_end0
          refine ⟨rfl, _, ?_, HM6.out.trans k4⟩
          unfold Lg
          rw [HFR.out, HSPN.out, List.length_append, Hme.out]
          exact ⟨_, _, _, _, _, k3⟩
        · go_simp
          refine hK _ _ ?_
          clear hK K
          refine take_at (i := 10) (some 81) (v := ?vg49) rfl rfl (by kernel_rfl) (by kernel_rfl) (by kernel_rfl) (fun _ _ _ h => h) (Or.inl ⟨by rfl, ?hg49⟩) ?rg49
          case hg49 => (intro w0; go_simp; try with_reducible rfl)
          simp only [Act.put, List.setIfInBounds_toArray, List.set_cons_zero, List.set_cons_succ]
          refine take_at (i := 11) (some 82) (v := ?vg50) rfl rfl (by kernel_rfl) (by kernel_rfl) (by kernel_rfl) (fun _ _ _ h => h) (Or.inl ⟨by rfl, ?hg50⟩) ?rg50
          case hg50 => (intro w0; go_simp; try with_reducible rfl)
          simp only [Act.put, List.setIfInBounds_toArray, List.set_cons_zero, List.set_cons_succ]
          refine wpAny_ready (rs := [4, 12]) (by kernel_rfl) (by simp) ?_
          refine AllReady.cons (o := _) rfl (fun K hK => ?_) (AllReady.cons (o := _) rfl (fun K hK => ?_) AllReady.nil)
          · go_simp
            refine hK _ _ ?_
            clear hK K
            refine wpAny_ready (rs := [12]) (by kernel_rfl) (by simp) ?_
            refine AllReady.cons (o := _) rfl (fun K hK => ?_) AllReady.nil
            refine step_build2 83 rfl rfl (.tmp 82) slSpans rfl (by omega) #[.int .i64 (n5 : Int), .int .i64 ((n5 + N : Nat) : Int)] rfl rfl ?_
            refine hK _ _ ?_
            clear hK K
            simp only [Act.put, List.setIfInBounds_toArray, List.set_cons_zero, List.set_cons_succ]
            refine wpAny_ready (rs := [13]) (by kernel_rfl) (by simp) ?_
            refine AllReady.cons (o := _) rfl (fun K hK => ?_) AllReady.nil
            refine step_app2 _ 84 rfl rfl (.tmp 75) (.tmp 83) slSpans rfl (v := .slice B5 m d5) rfl HSW.out rfl (rd_lit X.drew _ _ rfl rfl) (by intro u' hu'; simp at hu'; rcases hu' with rfl | rfl <;> rfl) (m + 1) rfl (by unfold maxLen; omega) (by omega) (by simp) ?_
            intro A7 c7 w7 h1 h2 h3 h4 h5
            refine hK _ _ ?_
            clear hK K
            have V2 := HX6.out.Vb (b_alloc (Below.refl _ _) _) h4
            have y0 := V2.cell 1
            have y1 := V2.frozen 1
            have y2 := V2.lt
            simp only [Act.put, List.setIfInBounds_toArray, List.set_cons_zero, List.set_cons_succ]
            refine take_at (i := 14) (some 85) (v := ?vg55) rfl rfl (by kernel_rfl) (by kernel_rfl) (by kernel_rfl) (fun _ _ _ h => h) (Or.inl ⟨by rfl, ?hg55⟩) ?rg55
            case hg55 => (intro w0; go_simp; try with_reducible rfl)
            simp only [Act.put, List.setIfInBounds_toArray, List.set_cons_zero, List.set_cons_succ]
            refine take_at (i := 15) (some 86) (v := ?vg56) rfl rfl (by kernel_rfl) (by kernel_rfl) (by kernel_rfl) (fun _ _ _ h => h) (Or.inl ⟨by rfl, ?hg56⟩) ?rg56
            case hg56 => (intro w0; go_simp; try with_reducible rfl)
            simp only [Act.put, List.setIfInBounds_toArray, List.set_cons_zero, List.set_cons_succ]
            refine wpAny_ready (rs := [16]) (by kernel_rfl) (by simp) ?_
            refine AllReady.cons (o := _) rfl (fun K hK => ?_) AllReady.nil
            go_simp
            refine hK _ _ ?_
            clear hK K
            refine wpAny_done (by kernel_rfl) ?_ _
            obtain ⟨k3, k4⟩ := HX6.out.spn (b_alloc (Below.refl _ _) _) _ h1 h2 h3 h4 h5
            go_wp2
            go_end0
            refine ⟨rfl, _, ?_, HM6.out.trans k4⟩
            unfold Lg
            rw [HFR.out, HSPN.out, List.length_append, Hme.out]
            exact ⟨_, _, _, _, _, k3⟩
          · refine step_build2 83 rfl rfl (.tmp 82) slSpans rfl (by omega) #[.int .i64 (n5 : Int), .int .i64 ((n5 + N : Nat) : Int)] rfl rfl ?_
            refine hK _ _ ?_
            clear hK K
            simp only [Act.put, List.setIfInBounds_toArray, List.set_cons_zero, List.set_cons_succ]
            refine wpAny_ready (rs := [4]) (by kernel_rfl) (by simp) ?_
            refine AllReady.cons (o := _) rfl (fun K hK => ?_) AllReady.nil
            go_simp
            refine hK _ _ ?_
            clear hK K
            refine wpAny_ready (rs := [13]) (by kernel_rfl) (by simp) ?_
            refine AllReady.cons (o := _) rfl (fun K hK => ?_) AllReady.nil
            refine step_app2 _ 84 rfl rfl (.tmp 75) (.tmp 83) slSpans rfl (v := .slice B5 m d5) rfl HSW.out rfl (rd_lit X.drew _ _ rfl rfl) (by intro u' hu'; simp at hu'; rcases hu' with rfl | rfl <;> rfl) (m + 1) rfl (by unfold maxLen; omega) (by omega) (by simp) ?_
            intro A7 c7 w7 h1 h2 h3 h4 h5
            refine hK _ _ ?_
            clear hK K
            have V2 := HX6.out.Vb (b_alloc (Below.refl _ _) _) h4
            have y0 := V2.cell 1
            have y1 := V2.frozen 1
            have y2 := V2.lt
            simp only [Act.put, List.setIfInBounds_toArray, List.set_cons_zero, List.set_cons_succ]
            refine take_at (i := 14) (some 85) (v := ?vg64) rfl rfl (by kernel_rfl) (by kernel_rfl) (by kernel_rfl) (fun _ _ _ h => h) (Or.inl ⟨by rfl, ?hg64⟩) ?rg64
            case hg64 => (intro w0; go_simp; try with_reducible rfl)
            simp only [Act.put, List.setIfInBounds_toArray, List.set_cons_zero, List.set_cons_succ]
            refine take_at (i := 15) (some 86) (v := ?vg65) rfl rfl (by kernel_rfl) (by kernel_rfl) (by kernel_rfl) (fun _ _ _ h => h) (Or.inl ⟨by rfl, ?hg65⟩) ?rg65
            case hg65 => (intro w0; go_simp; try with_reducible rfl)
            simp only [Act.put, List.setIfInBounds_toArray, List.set_cons_zero, List.set_cons_succ]
            refine wpAny_ready (rs := [16]) (by kernel_rfl) (by simp) ?_
            refine AllReady.cons (o := _) rfl (fun K hK => ?_) AllReady.nil
            go_simp
            refine hK _ _ ?_
            clear hK K
            refine wpAny_done (by kernel_rfl) ?_ _
            obtain ⟨k3, k4⟩ := HX6.out.spn (b_alloc (Below.refl _ _) _) _ h1 h2 h3 h4 h5
            go_wp2
            go_end0
            refine ⟨rfl, _, ?_, HM6.out.trans k4⟩
            unfold Lg
            rw [HFR.out, HSPN.out, List.length_append, Hme.out]
            exact ⟨_, _, _, _, _, k3⟩
set_option maxHeartbeats 1000000 in
theorem append_ok (F : Nat → Prop) (g : Nat) (recs : List (List Int)) (A2 : Option Addr) (N c2 : Nat) (x : List Int) (w : World) (h : Lg w F g recs) (hx : Bytes x) (rd : RdF w F A2 N x) (hxl : N ≤ 4000) (hD : (framesI recs).length ≤ 1000000000000) (hm : recs.length ≤ 1000000000000) :
    Calls Try.prog 22 #[.pointer (some ⟨g, 0, none⟩), .slice A2 N c2] w fun e w' => e = .returned (.int .i64 0) ∧ AddRet w F g (recs ++ [x]) w' := by
  obtain rfl : x.length = N := by have := rd.1.1; simpa using this
  have H := Lib.hid h
  have R := Lib.hid rd
  have HD := Lib.hid hD
  have HM := Lib.hid hm
  have hgt : decide ((4000 : Int) < (x.length : Int)) = false := by rw [decide_eq_false_iff_not]; omega
  obtain ⟨N, hN⟩ : ∃ N, x.length = N := ⟨_, rfl⟩
  have HN := Lib.hid hN
  rw [hN] at hgt hxl ⊢
  clear h rd hD hm hN
  go_enter Try.func22, Try.ntmps22
  go_wp2_with fail
  have ha := add_any F g recs A2 c2 x w H.out hx R.out (by rw [HN.out]; exact hxl) HD.out HM.out
  rw [HN.out] at ha
  refine ha.mono ?_
  rintro e w1 ⟨rfl, hA⟩
  go_wp2
  go_ret
  exact ⟨rfl, hA⟩
theorem append_no (p : Value) (A2 : Option Addr) (N c2 : Nat) (w : World) (hxl : 4000 < N) :
    Calls Try.prog 22 #[p, .slice A2 N c2] w fun e w' => e = .returned (.int .i64 2) ∧ w = w' := by
  have hgt : decide ((4000 : Int) < (N : Int)) = true := by rw [decide_eq_true_iff]; omega
  go_enter Try.func22, Try.ntmps22
  go_wp2
  go_ret
  exact ⟨rfl, rfl⟩
end Go.Proofs.Ytmoajnekegbncaa
