/-
  WHAT IS PROVED HERE: the walk of the law InputqueueOrder: it returns true at every input, and leaves old memory as it was. Conditions: the arguments' lengths are a machine's.
-/
import Derived.Test.YtdjmaljldajpiaaIqV1
import Derived.Test.YtdjmaljldajpiaaStep
import Derived.Test.YtdjmaljldajpiaaHlpI
import Derived.Deep.DeepCutAuto
namespace Go.Proofs.Ytdjmaljldajpiaa
set_option linter.unusedVariables false
open Go.ChangeShapes Go.WideShapes Go.ChangeAt Go.RowKit
open Go.Maps (Keyed)

set_option maxRecDepth 100000 in
set_option maxHeartbeats 8000000 in
theorem order_walk (a c : Int) (A : Option Addr) (n0 c0 : Nat) (l : List Int) (w : World) (ha : I64 a) (hc : I64 c)
    (nc : n0 ≤ c0) (cm : c0 ≤ maxLen) (ln : l.length = n0) (rd : Rd w w.heap.size 1 A n0 (l.map (Value.int .i64))) (wf : ∀ x ∈ l, (Lit.int .i64 x).wf = true) :
    Calls Try.prog 8 #[.int .i64 a, .int .i64 c, .slice A n0 c0] w fun e w' => e = .returned (.bool true) ∧ Below w.heap.size w w' := by
  have RD := Lib.hid rd
  have H64 := Lib.hid (fun x hx => bounds_i64 (wf x hx))
  have LN := Lib.hid ln
  have HCM := Lib.hid cm
  obtain ⟨KK, hK, hK1, hK8⟩ := kay_nat a
  have HK := Lib.hid hK
  have hkb := around_bd a 8 (by omega)
  obtain ⟨W, hW, hW8⟩ := wait_nat c
  have HW := Lib.hid hW
  unfold I64 at ha hc
  obtain ⟨ha1, ha2⟩ := ha
  obtain ⟨hc1, hc2⟩ := hc
  obtain ⟨m, hm⟩ : ∃ m, min n0 20 = m := ⟨_, rfl⟩
  have hm20 : m ≤ 20 := by omega
  have HM := Lib.hid hm
  have HLN := Lib.hid (show (l.take 20).length = m from by rw [List.length_take, ln]; omega)
  have HNM := Lib.hid (show (nums l).length = m from by unfold nums; rw [List.length_map, List.length_take, ln]; omega)
  clear rd wf cm ln hK hW hm
  go_enter Try.func8, Try.ntmps8
  go_wp2_with fail
  refine (around_any a 8 _ ha1 ha2 (by omega) (by omega)).mono ?_
  rintro e w_ ⟨rfl, rfl⟩
  go_wp2_with fail
  refine (around_any c 9 _ hc1 hc2 (by omega) (by omega)).mono ?_
  rintro e w_ ⟨rfl, rfl⟩
  rw [HK.out, HW.out]
  go_wp2_with fail
  refine (new_q KK W _ (by omega) hK8 hW8).mono ?_
  rintro e w1 ⟨pa, ba, rfl, hI1, hF1, hb1⟩
  have H1 := Lib.hid (And.intro hI1 hF1)
  clear hI1 hF1 hkb
  go_wp2_with fail
  refine (new_q KK W _ (by omega) hK8 hW8).mono ?_
  rintro e w2 ⟨pb, bb, rfl, hI2, hF2, hb2⟩
  have HT2 := Lib.hid (show Two w w2 pa ba none pb bb none KK W 0 s0 s0 from ⟨⟨0, Nat.le_refl _, H1.out.1.below hb2⟩, ⟨0, Nat.le_refl _, hI2⟩, fun j h1 h2 => by have := H1.out.1.lt j h1; have := hF2 j h2; omega, by decide, by decide, H1.out.2, fun j hj => Nat.le_trans hb1.size (hF2 j hj), b_call hb1 hb2⟩)
  clear hI2 hF2 H1
  go_wp2_with fail
  refine (ints_any A n0 c0 l 20 20 _ rfl (rd_step (rd_step RD.out hb1) hb2) nc HCM.out (by omega)).mono ?_
  rintro e w3 ⟨A1, c1, rfl, _, _, o1, hb3⟩
  rw [HM.out] at o1 ⊢
  have RA := Lib.hid (show RdT w3 pa ba none pb bb none 1 A1 m ((l.take 20).map (Value.int .i64)) from ⟨(OwnA.new HT2.out.iqu o1).rd, fun ad ha hf => by have := (own_blk o1 ad ha).1; have := HT2.out.swap.iqu.lt _ hf; omega⟩)
  have HT3 := Lib.hid (HT2.out.below hb3)
  clear o1 hb1 hb2 hb3 HT2 RD LN HM HK HW HCM nc
  have kz1 : (KK = 0) = False := eq_false (by omega)
  have kz2 : ((KK : Int) = 0) = False := eq_false (by omega)
  have kz3 : (9 * (KK : Int) = 0) = False := eq_false (by omega)
  have kz4 : IntKind.i64.wrap (9 * (KK : Int)) = 9 * (KK : Int) := IntWalk.i64_in _ (by omega)
  go_wp2
  go_loopw [12] (fun s12 wr => ∃ (i : Nat), i ≤ m ∧ s12 = .int .i64 i ∧ Hid (Two w wr pa ba none pb bb none KK W (2 * i) (sq KK ((nums l).take i)) (sq KK ((nums l).reverse.take i)) ∧ RdT wr pa ba none pb bb none 1 A1 m ((l.take 20).map (Value.int .i64)))) (fun i _ => m - (intOf i).toNat)
  case atStart => exact ⟨0, by omega, rfl, Lib.hid ⟨HT3.out, RA.out⟩⟩
  case round =>
    obtain ⟨i, hi, rfl, HL⟩ := hrel
    obtain ⟨wo, rfl⟩ : ∃ wo : World, wo = wr := ⟨_, rfl⟩
    by_cases hlt : i < m
    · have d1 : decide (i < m) = true := decide_eq_true hlt
      obtain ⟨b0, o0, hl0, rfl, hb0, z0⟩ := HL.out.2.1.1.openMap (k := i) hlt
      obtain ⟨b1, o1, hl1, hbb, hb1, z1⟩ := HL.out.2.1.1.openMap (k := m - 1 - i) (by omega)
      injection hbb with hbb
      injection hbb with e1 e2
      subst e1 e2
      have hx64 := H64.out _ (List.mem_of_mem_take (List.getElem_mem hl0))
      have hy64 := H64.out _ (List.mem_of_mem_take (List.getElem_mem hl1))
      have E1 := Lib.hid (show (nums l).take (i + 1) = (nums l).take i ++ [around (l.take 20)[i] 100000] from by
        rw [List.take_succ_eq_append_getElem (by rw [HNM.out]; exact hlt)]
        congr 2
        unfold nums
        simp)
      have E2 := Lib.hid (show (nums l).reverse.take (i + 1) = (nums l).reverse.take i ++ [around (l.take 20)[m - 1 - i] 100000] from by
        rw [List.take_succ_eq_append_getElem (by rw [List.length_reverse, HNM.out]; exact hlt)]
        congr 2
        rw [List.getElem_reverse]
        simp only [HNM.out]
        unfold nums
        simp)
      obtain ⟨v, hv⟩ : ∃ v, (l.take 20)[i] = v := ⟨_, rfl⟩
      obtain ⟨u, hu⟩ : ∃ v, (l.take 20)[m - 1 - i] = v := ⟨_, rfl⟩
      rw [hv] at z0 hx64 E1
      rw [hu] at z1 hy64 E2
      clear hv hu hl0 hl1
      obtain ⟨hx1, hx2⟩ := hx64
      obtain ⟨hy1, hy2⟩ := hy64
      have hnb := around_bd v 100000 (by omega)
      have hmb := around_bd u 100000 (by omega)
      obtain ⟨N, hN⟩ : ∃ N, around v 100000 = N := ⟨_, rfl⟩
      obtain ⟨M, hMM⟩ : ∃ N, around u 100000 = N := ⟨_, rfl⟩
      rw [hN] at hnb E1
      rw [hMM] at hmb E2
      have HN := Lib.hid (And.intro hN hMM)
      clear hN hMM
      obtain ⟨hnb1, hnb2⟩ := hnb
      obtain ⟨hmb1, hmb2⟩ := hmb
      go_wp2_with fail
      refine (around_any v 100000 _ hx1 hx2 (by omega) (by omega)).mono ?_
      rintro e w_ ⟨rfl, rfl⟩
      rw [HN.out.1]
      go_wp2_with fail
      refine (around_any u 100000 _ hy1 hy2 (by omega) (by omega)).mono ?_
      rintro e w_ ⟨rfl, rfl⟩
      rw [HN.out.2]
      have hdN1 : 0 ≤ N / (KK : Int) := Int.ediv_nonneg (by omega) (by omega)
      have hdN2 : N / (KK : Int) ≤ 100000 := by have := Int.ediv_le_self (KK : Int) (show 0 ≤ N from by omega); omega
      have hmN1 := Int.emod_nonneg N (b := (KK : Int)) (by omega)
      have hmN2 := Int.emod_lt_of_pos N (show (0 : Int) < (KK : Int) from by omega)
      have hnN1 := Int.emod_nonneg N (b := 9 * (KK : Int)) (by omega)
      have hnN2 := Int.emod_lt_of_pos N (show (0 : Int) < 9 * (KK : Int) from by omega)
      have hdM1 : 0 ≤ M / (KK : Int) := Int.ediv_nonneg (by omega) (by omega)
      have hdM2 : M / (KK : Int) ≤ 100000 := by have := Int.ediv_le_self (KK : Int) (show 0 ≤ M from by omega); omega
      have hmM1 := Int.emod_nonneg M (b := (KK : Int)) (by omega)
      have hmM2 := Int.emod_lt_of_pos M (show (0 : Int) < (KK : Int) from by omega)
      have hnM1 := Int.emod_nonneg M (b := 9 * (KK : Int)) (by omega)
      have hnM2 := Int.emod_lt_of_pos M (show (0 : Int) < 9 * (KK : Int) from by omega)
      have qa1 : N.tmod (KK : Int) = N % (KK : Int) := Int.tmod_eq_emod_of_nonneg (by omega)
      have qa2 : IntKind.i64.wrap (N.tdiv (KK : Int)) = N / (KK : Int) := (IntWalk.i64_in _ (by rw [Int.tdiv_eq_ediv_of_nonneg (by omega)]; omega)).trans (Int.tdiv_eq_ediv_of_nonneg (by omega))
      have qa3 : (N / (KK : Int)).tmod 9 = N / (KK : Int) % 9 := Int.tmod_eq_emod_of_nonneg (by omega)
      have qa5 : N.tmod (9 * (KK : Int)) = N % (9 * (KK : Int)) := Int.tmod_eq_emod_of_nonneg (by omega)
      have qb1 : M.tmod (KK : Int) = M % (KK : Int) := Int.tmod_eq_emod_of_nonneg (by omega)
      have qb2 : IntKind.i64.wrap (M.tdiv (KK : Int)) = M / (KK : Int) := (IntWalk.i64_in _ (by rw [Int.tdiv_eq_ediv_of_nonneg (by omega)]; omega)).trans (Int.tdiv_eq_ediv_of_nonneg (by omega))
      have qb3 : (M / (KK : Int)).tmod 9 = M / (KK : Int) % 9 := Int.tmod_eq_emod_of_nonneg (by omega)
      have qb5 : M.tmod (9 * (KK : Int)) = M % (9 * (KK : Int)) := Int.tmod_eq_emod_of_nonneg (by omega)
      go_wp2_with fail
      refine wp_region_any (by kernel_rfl) ?_
      change wpAny _ _ _ _ _ _ _ (World.drew _)
      refine take_at (i := 0) (some 65) (v := ?vg2) rfl rfl (by kernel_rfl) (by kernel_rfl) (by kernel_rfl) (fun _ _ _ h => h) (Or.inl ⟨by rfl, ?hg2⟩) ?rg2
      case hg2 => (intro w0; go_simp; try with_reducible rfl)
      simp only [Act.put, List.setIfInBounds_toArray, List.set_cons_zero, List.set_cons_succ]
      refine take_at (i := 1) (some 66) (v := ?vg3) rfl rfl (by kernel_rfl) (by kernel_rfl) (by kernel_rfl) (fun _ _ _ h => h) (Or.inl ⟨by rfl, ?hg3⟩) ?rg3
      case hg3 => (intro w0; go_simp; try with_reducible rfl)
      simp only [Act.put, List.setIfInBounds_toArray, List.set_cons_zero, List.set_cons_succ]
      refine take_at (i := 2) (some 67) (v := ?vg4) rfl rfl (by kernel_rfl) (by kernel_rfl) (by kernel_rfl) (fun _ _ _ h => h) (Or.inl ⟨by rfl, ?hg4⟩) ?rg4
      case hg4 => (intro w0; go_simp; try with_reducible rfl)
      simp only [Act.put, List.setIfInBounds_toArray, List.set_cons_zero, List.set_cons_succ]
      refine take_at (i := 3) (some 68) (v := ?vg5) rfl rfl (by kernel_rfl) (by kernel_rfl) (by kernel_rfl) (fun _ _ _ h => h) (Or.inl ⟨by rfl, ?hg5⟩) ?rg5
      case hg5 => (intro w0; go_simp; try with_reducible rfl)
      simp only [Act.put, List.setIfInBounds_toArray, List.set_cons_zero, List.set_cons_succ]
      refine take_at (i := 4) (some 69) (v := ?vg6) rfl rfl (by kernel_rfl) (by kernel_rfl) (by kernel_rfl) (fun _ _ _ h => h) (Or.inl ⟨by rfl, ?hg6⟩) ?rg6
      case hg6 => (intro w0; go_simp; try with_reducible rfl)
      simp only [Act.put, List.setIfInBounds_toArray, List.set_cons_zero, List.set_cons_succ]
      refine take_at (i := 5) (some 70) (v := ?vg7) rfl rfl (by kernel_rfl) (by kernel_rfl) (by kernel_rfl) (fun _ _ _ h => h) (Or.inl ⟨by rfl, ?hg7⟩) ?rg7
      case hg7 => (intro w0; go_simp; try with_reducible rfl)
      simp only [Act.put, List.setIfInBounds_toArray, List.set_cons_zero, List.set_cons_succ]
      refine take_at (i := 6) (some 71) (v := ?vg8) rfl rfl (by kernel_rfl) (by kernel_rfl) (by kernel_rfl) (fun _ _ _ h => h) (Or.inl ⟨by rfl, ?hg8⟩) ?rg8
      case hg8 => (intro w0; go_simp; try with_reducible rfl)
      simp only [Act.put, List.setIfInBounds_toArray, List.set_cons_zero, List.set_cons_succ]
      refine take_at (i := 7) (some 72) (v := ?vg9) rfl rfl (by kernel_rfl) (by kernel_rfl) (by kernel_rfl) (fun _ _ _ h => h) (Or.inl ⟨by rfl, ?hg9⟩) ?rg9
      case hg9 => (intro w0; go_simp; try with_reducible rfl)
      simp only [Act.put, List.setIfInBounds_toArray, List.set_cons_zero, List.set_cons_succ]
      refine take_at (i := 8) (some 73) (v := ?vg10) rfl rfl (by kernel_rfl) (by kernel_rfl) (by kernel_rfl) (fun _ _ _ h => h) (Or.inl ⟨by rfl, ?hg10⟩) ?rg10
      case hg10 => (intro w0; go_simp; try with_reducible rfl)
      simp only [Act.put, List.setIfInBounds_toArray, List.set_cons_zero, List.set_cons_succ]
      refine take_at (i := 9) (some 74) (v := ?vg11) rfl rfl (by kernel_rfl) (by kernel_rfl) (by kernel_rfl) (fun _ _ _ h => h) (Or.inl ⟨by rfl, ?hg11⟩) ?rg11
      case hg11 => (intro w0; go_simp; try with_reducible rfl)
      simp only [Act.put, List.setIfInBounds_toArray, List.set_cons_zero, List.set_cons_succ]
      refine take_at (i := 10) (some 75) (v := ?vg12) rfl rfl (by kernel_rfl) (by kernel_rfl) (by kernel_rfl) (fun _ _ _ h => h) (Or.inl ⟨by rfl, ?hg12⟩) ?rg12
      case hg12 => (intro w0; go_simp; try with_reducible rfl)
      simp only [Act.put, List.setIfInBounds_toArray, List.set_cons_zero, List.set_cons_succ]
      refine take_at (i := 11) (some 76) (v := ?vg13) rfl rfl (by kernel_rfl) (by kernel_rfl) (by kernel_rfl) (fun _ _ _ h => h) (Or.inl ⟨by rfl, ?hg13⟩) ?rg13
      case hg13 => (intro w0; go_simp; try with_reducible rfl)
      simp only [Act.put, List.setIfInBounds_toArray, List.set_cons_zero, List.set_cons_succ]
      refine wpAny_ready (rs := [12]) (by kernel_rfl) (by simp) ?_
      refine AllReady.cons (o := _) rfl (fun K hK => ?_) AllReady.nil
      go_simp
      refine (of_any (N % (9 * (KK : Int))) _ (by omega) (by omega)).mono ?_
      rintro e wAo ⟨rfl, hbwAo⟩
      refine hK _ _ ?_
      clear hK K
      refine wpAny_ready (rs := [13]) (by kernel_rfl) (by simp) ?_
      refine AllReady.cons (o := _) rfl (fun K hK => ?_) AllReady.nil
      go_simp
      refine (offer_q pa ba _ KK W _ _ _ 2 (N % (KK : Int)) (N / (KK : Int) % 9) (inpOf (N % (9 * (KK : Int)))).1 (inpOf (N % (9 * (KK : Int)))).2.1 (inpOf (N % (9 * (KK : Int)))).2.2 _ _ ((HL.out.1.below (b_drew (Below.refl _ _))).below hbwAo).iqu (sq_off hK1 _ _ (by omega)) rfl (i64_small (by omega) (by omega)) (i64_small (by omega) (by omega)) (i64_small (by omega) (by omega)) hK8 (by show 0 ≤ 6000; omega) (by omega)).mono ?_
      rintro e wA ⟨rfl, hIwA, mwA⟩
      refine hK _ _ ?_
      clear hK K
      refine wpAny_done (by kernel_rfl) ?_ _
      have TA := Lib.hid (((HL.out.1.below (b_drew (Below.refl _ _))).below hbwAo).mv hIwA mwA (Nat.le_succ _) (by show 0 ≤ 6000; omega))
      have RA2 := Lib.hid (((HL.out.2.below (b_drew (Below.refl _ _))).below hbwAo).mv mwA)
      clear hIwA mwA hbwAo
      go_wp2_with fail
      refine wp_region_any (by kernel_rfl) ?_
      change wpAny _ _ _ _ _ _ _ (World.drew _)
      refine take_at (i := 0) (some 79) (v := ?vg18) rfl rfl (by kernel_rfl) (by kernel_rfl) (by kernel_rfl) (fun _ _ _ h => h) (Or.inl ⟨by rfl, ?hg18⟩) ?rg18
      case hg18 => (intro w0; go_simp; try with_reducible rfl)
      simp only [Act.put, List.setIfInBounds_toArray, List.set_cons_zero, List.set_cons_succ]
      refine take_at (i := 1) (some 80) (v := ?vg19) rfl rfl (by kernel_rfl) (by kernel_rfl) (by kernel_rfl) (fun _ _ _ h => h) (Or.inl ⟨by rfl, ?hg19⟩) ?rg19
      case hg19 => (intro w0; go_simp; try with_reducible rfl)
      simp only [Act.put, List.setIfInBounds_toArray, List.set_cons_zero, List.set_cons_succ]
      refine take_at (i := 2) (some 81) (v := ?vg20) rfl rfl (by kernel_rfl) (by kernel_rfl) (by kernel_rfl) (fun _ _ _ h => h) (Or.inl ⟨by rfl, ?hg20⟩) ?rg20
      case hg20 => (intro w0; go_simp; try with_reducible rfl)
      simp only [Act.put, List.setIfInBounds_toArray, List.set_cons_zero, List.set_cons_succ]
      refine take_at (i := 3) (some 82) (v := ?vg21) rfl rfl (by kernel_rfl) (by kernel_rfl) (by kernel_rfl) (fun _ _ _ h => h) (Or.inl ⟨by rfl, ?hg21⟩) ?rg21
      case hg21 => (intro w0; go_simp; try with_reducible rfl)
      simp only [Act.put, List.setIfInBounds_toArray, List.set_cons_zero, List.set_cons_succ]
      refine take_at (i := 4) (some 83) (v := ?vg22) rfl rfl (by kernel_rfl) (by kernel_rfl) (by kernel_rfl) (fun _ _ _ h => h) (Or.inl ⟨by rfl, ?hg22⟩) ?rg22
      case hg22 => (intro w0; go_simp; try with_reducible rfl)
      simp only [Act.put, List.setIfInBounds_toArray, List.set_cons_zero, List.set_cons_succ]
      refine take_at (i := 5) (some 84) (v := ?vg23) rfl rfl (by kernel_rfl) (by kernel_rfl) (by kernel_rfl) (fun _ _ _ h => h) (Or.inl ⟨by rfl, ?hg23⟩) ?rg23
      case hg23 => (intro w0; go_simp; try with_reducible rfl)
      simp only [Act.put, List.setIfInBounds_toArray, List.set_cons_zero, List.set_cons_succ]
      refine take_at (i := 6) (some 85) (v := ?vg24) rfl rfl (by kernel_rfl) (by kernel_rfl) (by kernel_rfl) (fun _ _ _ h => h) (Or.inl ⟨by rfl, ?hg24⟩) ?rg24
      case hg24 => (intro w0; go_simp; try with_reducible rfl)
      simp only [Act.put, List.setIfInBounds_toArray, List.set_cons_zero, List.set_cons_succ]
      refine take_at (i := 7) (some 86) (v := ?vg25) rfl rfl (by kernel_rfl) (by kernel_rfl) (by kernel_rfl) (fun _ _ _ h => h) (Or.inl ⟨by rfl, ?hg25⟩) ?rg25
      case hg25 => (intro w0; go_simp; try with_reducible rfl)
      simp only [Act.put, List.setIfInBounds_toArray, List.set_cons_zero, List.set_cons_succ]
      refine take_at (i := 8) (some 87) (v := ?vg26) rfl rfl (by kernel_rfl) (by kernel_rfl) (by kernel_rfl) (fun _ _ _ h => h) (Or.inl ⟨by rfl, ?hg26⟩) ?rg26
      case hg26 => (intro w0; go_simp; try with_reducible rfl)
      simp only [Act.put, List.setIfInBounds_toArray, List.set_cons_zero, List.set_cons_succ]
      refine take_at (i := 9) (some 88) (v := ?vg27) rfl rfl (by kernel_rfl) (by kernel_rfl) (by kernel_rfl) (fun _ _ _ h => h) (Or.inl ⟨by rfl, ?hg27⟩) ?rg27
      case hg27 => (intro w0; go_simp; try with_reducible rfl)
      simp only [Act.put, List.setIfInBounds_toArray, List.set_cons_zero, List.set_cons_succ]
      refine take_at (i := 10) (some 89) (v := ?vg28) rfl rfl (by kernel_rfl) (by kernel_rfl) (by kernel_rfl) (fun _ _ _ h => h) (Or.inl ⟨by rfl, ?hg28⟩) ?rg28
      case hg28 => (intro w0; go_simp; try with_reducible rfl)
      simp only [Act.put, List.setIfInBounds_toArray, List.set_cons_zero, List.set_cons_succ]
      refine take_at (i := 11) (some 90) (v := ?vg29) rfl rfl (by kernel_rfl) (by kernel_rfl) (by kernel_rfl) (fun _ _ _ h => h) (Or.inl ⟨by rfl, ?hg29⟩) ?rg29
      case hg29 => (intro w0; go_simp; try with_reducible rfl)
      simp only [Act.put, List.setIfInBounds_toArray, List.set_cons_zero, List.set_cons_succ]
      refine wpAny_ready (rs := [12]) (by kernel_rfl) (by simp) ?_
      refine AllReady.cons (o := _) rfl (fun K hK => ?_) AllReady.nil
      go_simp
      refine (of_any (M % (9 * (KK : Int))) _ (by omega) (by omega)).mono ?_
      rintro e wBo ⟨rfl, hbwBo⟩
      refine hK _ _ ?_
      clear hK K
      refine wpAny_ready (rs := [13]) (by kernel_rfl) (by simp) ?_
      refine AllReady.cons (o := _) rfl (fun K hK => ?_) AllReady.nil
      go_simp
      refine (offer_q pb bb _ KK W _ _ _ 2 (M % (KK : Int)) (M / (KK : Int) % 9) (inpOf (M % (9 * (KK : Int)))).1 (inpOf (M % (9 * (KK : Int)))).2.1 (inpOf (M % (9 * (KK : Int)))).2.2 _ _ ((TA.out.below (b_drew (Below.refl _ _))).below hbwBo).swap.iqu (sq_off hK1 _ _ (by omega)) rfl (i64_small (by omega) (by omega)) (i64_small (by omega) (by omega)) (i64_small (by omega) (by omega)) hK8 (by show 0 ≤ 6000; omega) (by omega)).mono ?_
      rintro e wB ⟨rfl, hIwB, mwB⟩
      refine hK _ _ ?_
      clear hK K
      refine wpAny_done (by kernel_rfl) ?_ _
      have TB := Lib.hid ((((TA.out.below (b_drew (Below.refl _ _))).below hbwBo).swap.mv hIwB mwB (Nat.le_succ _) (by show 0 ≤ 6000; omega)).swap)
      have RB := Lib.hid ((((RA2.out.below (b_drew (Below.refl _ _))).below hbwBo).swap.mv mwB).swap)
      clear hIwB mwB hbwBo
      go_wp2
      go_roundw
      case rel => exact ⟨i + 1, by omega, by go_num, Lib.hid ⟨by rw [E1.out, E2.out]; exact TB.out, RB.out⟩⟩
      case measure => simp [intOf]; omega
    · obtain rfl : i = m := by omega
      have d1 : decide (i < i) = false := by simp
      clear d1
      have HS0 := Lib.hid (show sq KK ((nums l).take i) = sq KK (nums l) ∧ sq KK ((nums l).reverse.take i) = sq KK (nums l) from by
        rw [List.take_of_length_le (by rw [HNM.out]; exact Nat.le_refl _), List.take_of_length_le (by rw [List.length_reverse, HNM.out]; exact Nat.le_refl _)]
        refine ⟨rfl, ?_⟩
        unfold sq
        rw [pdOf_perm KK (fun n => List.mem_reverse)])
      have HT := HL.out.1
      rw [HS0.out.1, HS0.out.2] at HT
      have HT := Lib.hid HT
      obtain ⟨s', hs'⟩ : ∃ s', adv KK W 5 (sq KK (nums l)) = s' := ⟨_, rfl⟩
      have hl' := adv_len (k := KK) (wt := W) (now := 5) (sq KK (nums l)) HT.out.len
      rw [hs'] at hl'
      obtain ⟨N, hN⟩ : ∃ N, s'.2.length = N := ⟨_, rfl⟩
      rw [hN] at hl'
      have hN6 := hl'.2
      have HS := Lib.hid (And.intro hs' hN)
      have hz0 : (sq KK (nums l)).2.length ≤ 6000 := HT.out.len
      clear hs' hN hl' HL kz1 kz2 kz3 kz4
      go_wp2_with fail
      refine (advance_q pa ba none KK W (2 * i) (sq KK (nums l)) _ 5 s' (N : Int) HT.out.iqu HS.out.1 (by rw [HS.out.2]; exact Int.sub_zero _) (i64_small (by omega) (by omega)) hK8 hW8 hz0).mono ?_
      rintro e w5 ⟨rfl, g5, hI5, m5⟩
      have T5 := Lib.hid (HT.out.mv hI5 m5 (Nat.le_refl _) (by rw [HS.out.2]; exact hN6))
      clear hI5 m5
      go_wp2_with fail
      refine (advance_q pb bb none KK W (2 * i) (sq KK (nums l)) _ 5 s' (N : Int) T5.out.swap.iqu HS.out.1 (by rw [HS.out.2]; exact Int.sub_zero _) (i64_small (by omega) (by omega)) hK8 hW8 hz0).mono ?_
      rintro e w6 ⟨rfl, g6, hI6, m6⟩
      have T6 := Lib.hid ((T5.out.swap.mv hI6 m6 (Nat.le_refl _) (by rw [HS.out.2]; exact hN6)).swap.up (show 2 * i ≤ 100 from by omega))
      clear hI6 m6
      have qN : ((N : Int) != (N : Int)) = false := by simp
      go_wp2_with fail
      refine (next_any pa ba g5 KK W 100 s'.1 s'.2 _ T6.out.iqu).mono ?_
      rintro e w_ ⟨rfl, rfl⟩
      rw [HS.out.2]
      go_wp2_with fail
      refine (next_any pb bb g6 KK W 100 s'.1 s'.2 _ T6.out.swap.iqu).mono ?_
      rintro e w_ ⟨rfl, rfl⟩
      rw [HS.out.2]
      go_wp2
      go_loopw [15] (fun s15 wr => ∃ t : Nat, t ≤ N ∧ s15 = .int .i64 t ∧ Hid (Two w wr pa ba g5 pb bb g6 KK W (100 + t) s' s')) (fun i _ => N - (intOf i).toNat)
      case atStart => exact ⟨0, by omega, rfl, T6⟩
      case round =>
        obtain ⟨t, ht, rfl, HQ⟩ := hrel
        obtain ⟨wp, rfl⟩ : ∃ wp : World, wp = wr := ⟨_, rfl⟩
        go_wp2_with fail
        refine (next_any pa ba g5 KK W (100 + t) s'.1 s'.2 _ HQ.out.iqu).mono ?_
        rintro e w_ ⟨rfl, rfl⟩
        rw [HS.out.2]
        by_cases htl : t < N
        · have d4 : decide (t < N) = true := decide_eq_true htl
          obtain ⟨r, hr⟩ : ∃ r, s'.2[t]? = some r := ⟨_, List.getElem?_eq_getElem (by rw [HS.out.2]; exact htl)⟩
          obtain ⟨I, hI⟩ : ∃ I, firstI KK r = I := ⟨_, rfl⟩
          have HR := Lib.hid (And.intro hr hI)
          have HIL := Lib.hid (show I.length = KK from by rw [← hI]; simp [firstI])
          clear hr hI
          go_wp2_with fail
          refine (fixed_q pa ba g5 KK W (100 + t) s' _ t r I _ HQ.out.iqu HR.out.1 HR.out.2 rfl hK8 (by rw [HS.out.2]; omega)).mono ?_
          rintro e w7 ⟨A3, c3, A4, c4, rfl, o3, o4, hb7⟩
          have O3 := Lib.hid o3
          have Q7 := Lib.hid (HQ.out.below hb7)
          clear o3 o4
          go_wp2_with fail
          refine (fixed_q pb bb g6 KK W (100 + t) s' _ t r I _ Q7.out.swap.iqu HR.out.1 HR.out.2 rfl hK8 (by rw [HS.out.2]; omega)).mono ?_
          rintro e w8 ⟨A5, c5, A6, c6, rfl, o5, o6, hb8⟩
          have O3b := Lib.hid (own_below O3.out hb8)
          have O5 := Lib.hid o5
          have Q8 := Lib.hid (Q7.out.below hb8)
          have hz7 := hb7.size
          have hz8 := hb8.size
          clear o5 o6 hb7 hb8 O3 Q7
          go_wp2_with (at_builtin; refine wpList_app _ rfl (.tmp 125) (.tmp 126) slRow rfl rfl (own_empty w8 _ 3 (Nat.le_refl _)) rfl (rd_own (O3b.out.alloc _)) (flat_cell _) KK (Nat.zero_add _) (by unfold maxLen; omega) (by omega) (by simp) ?_; intro A7 c7 Y g1 g2 g3 g4 g5')
          have hBY : Below w8.heap.size w8 Y := below_app (b_alloc (Below.refl _ _) _) (own_empty w8 34 3 (Nat.le_refl _)) g4 (Nat.le_refl _) (by simp)
          have O7 := Lib.hid (show Y.ownsRow w8.heap.size 34 3 (.slice A7 KK c7) KK (flat I) from by simpa using g3)
          have O3Y := Lib.hid (own_below O3b.out hBY)
          have O5Y := Lib.hid (own_below O5.out hBY)
          have QY := Lib.hid (Q8.out.below hBY)
          have hzY := hBY.size
          have hb3lt := Lib.hid (fun j (hj : (Value.slice A3 KK c3).ownBlock = some j) => O3b.out.lt j hj)
          clear g1 g2 g3 g4 g5' hBY O3b O5 Q8
          refine (equal_any A3 A5 KK c3 KK c5 I I _ (rd_own O3Y.out) (rd_own O5Y.out) (by omega) (by omega)).mono ?_
          rintro e w9 ⟨rfl, hb9⟩
          rw [show decide (I = I) = true from by simp]
          have O3Z := Lib.hid (own_below O3Y.out hb9)
          have O7Z := Lib.hid (own_below O7.out hb9)
          have QZ := Lib.hid (QY.out.below hb9)
          obtain ⟨b3, cur, he3, hb3, hV3, htk, hn3, hs3⟩ := own_open O3Z.out (by omega)
          subst he3
          obtain ⟨bx, ox, hlx, hbx, _, z0, z1, z2⟩ := (rd_own O3Z.out).openRow (k := 0) (by omega)
          injection hbx with hbx
          injection hbx with e1 e2
          subst e1 e2
          simp only [Nat.zero_mul, Nat.add_zero, Nat.zero_add] at z0 z1 z2
          have hb38 := (hb3lt.out b3 rfl).2
          have HF3 := Lib.hid (show (¬ Foot pa ba g5 b3) ∧ (¬ Foot pb bb g6 b3) from ⟨fun h => by have := HQ.out.iqu.lt _ h; omega, fun h => by have := HQ.out.swap.iqu.lt _ h; omega⟩)
          have hfz := hV3.frozen
          have hlz := hV3.lt
          have hVw : w.heap.size ≤ b3 := by have := HQ.out.bel.size; omega
          clear hV3 htk hs3
          go_wp2_with fail
          refine name_worldC ?_
          intro Z hZ
          have hOZ : Only (· = b3) w9 Z := by rw [hZ]; exact (((Only.refl (fun x => x = b3) w9).setCell (p := ⟨b3, 0, none⟩) (.inl rfl) _).setCell (p := ⟨b3, 1, none⟩) (.inl rfl) _).setCell (p := ⟨b3, 2, none⟩) (.inl rfl) _
          clear hZ z0 z1 z2 hfz
          have QZ2 := Lib.hid (QZ.out.only1 hOZ HF3.out.1 HF3.out.2 hVw)
          have O7Z2 := Lib.hid (own_only O7Z.out hOZ (fun j hj e => by have := (O7.out.lt j hj).1; omega))
          obtain ⟨E, hE⟩ : ∃ E, offerE KK s'.2.length s'.1 6 0 (t : Int) (-1, 0, 0) = E := ⟨_, rfl⟩
          have hoff : offS KK 6 0 (t : Int) (-1, 0, 0) s' = s' := by
            unfold offS
            rw [if_neg]
            intro h0
            obtain ⟨_, _, _, _, h5, _⟩ := offerE_in (.inl h0)
            rw [HS.out.2] at h5
            omega
          have HE := Lib.hid (And.intro hE hoff)
          clear hE hoff
          refine (offer_q pa ba g5 KK W (100 + t) s' _ 6 0 (t : Int) (-1) 0 0 s' E QZ2.out.iqu HE.out.2 HE.out.1 (i64_small (by omega) (by omega)) (i64_small (by omega) (by omega)) (i64_small (by omega) (by omega)) hK8 (by rw [HS.out.2]; exact hN6) (by omega)).mono ?_
          rintro e w10 ⟨rfl, hI10, m10⟩
          have Q10 := Lib.hid (QZ2.out.mv hI10 m10 (Nat.le_succ _) (by rw [HS.out.2]; exact hN6))
          have O710 := Lib.hid (own_same O7Z2.out fun j hj => (m10.away (O7Z2.out.lt j hj).2 (fun h => by have := (O7.out.lt j hj).1; have := HQ.out.iqu.lt _ h; omega)).1)
          clear hI10 m10
          go_wp2_with fail
          refine (fixed_q pa ba g5 KK W _ s' _ t r I _ Q10.out.iqu HR.out.1 HR.out.2 rfl hK8 (by rw [HS.out.2]; omega)).mono ?_
          rintro e w11 ⟨A8, c8, A9, c9, rfl, o8, o9, hb11⟩
          have O8 := Lib.hid (rd_own o8)
          have O711 := Lib.hid (rd_own (own_below O710.out hb11))
          have Q11 := Lib.hid (Q10.out.below hb11)
          clear o8 o9 hb11
          go_wp2_with fail
          refine (equal_any A8 A7 KK c8 KK c7 I I _ O8.out O711.out (by omega) (by omega)).mono ?_
          rintro e w12 ⟨rfl, hb12⟩
          rw [show decide (I = I) = true from by simp]
          have Q12 := Lib.hid (Q11.out.below hb12)
          clear hb12
          go_wp2
          go_roundw
          case rel => exact ⟨t + 1, by omega, by go_num, Q12⟩
          case measure => simp [intOf]; omega
        · have d4 : decide (t < N) = false := decide_eq_false htl
          go_wp2_with fail
          refine (lives_any _).mono ?_
          rintro e w9 ⟨rfl, hb9⟩
          go_wp2
          go_ret
          exact ⟨rfl, b_call HQ.out.bel hb9⟩
end Go.Proofs.Ytdjmaljldajpiaa
