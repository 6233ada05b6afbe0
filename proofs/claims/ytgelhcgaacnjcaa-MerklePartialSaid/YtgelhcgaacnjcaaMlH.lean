/-
  WHAT IS PROVED HERE: the walk of the law MerklePartial. No condition but what comes in lies in memory.
-/
import Derived.Test.YtgelhcgaacnjcaaMlG
import Derived.Deep.Cut
import Derived.Deep.CutRange
import Derived.Deep.CutBlock
namespace Go.Proofs.Ytgelhcgaacnjcaa
set_option linter.unusedVariables false
open Go.ChangeShapes Go.WideShapes Go.ChangeAt Go.RowKit

theorem slLeafE : SlT Try.prog 46 25 3 40 := .mk' (z := .agg #[.int .i64 0, .int .i64 0, .slice none 0 0]) Try.underlying46 (by kernel_rfl) rfl (by omega)
theorem lfC_oneE (r : LfR) : ∀ u ∈ lfC r, u.oneCell' = true := by
  intro u hu
  simp [lfC] at hu
  rcases hu with rfl | rfl | rfl <;> rfl
set_option maxRecDepth 100000 in
set_option maxHeartbeats 40000000 in
theorem partial_walk (A : Option Addr) (n c : Nat) (l : List Int) (Ak : Option Addr) (nk ck : Nat) (lk : List Int) (Aa : Option Addr) (na ca : Nat) (la : List Int) (Ab : Option Addr) (nb cb : Nat) (lb : List Int) (W : World) (rd : Rd W W.heap.size 1 A n (l.map (Value.int .i64))) (hn : n ≤ c) (hc : c ≤ maxLen)
    (rk : Rd W W.heap.size 1 Ak nk (lk.map (Value.int .i64))) (hlk : ∀ x ∈ lk, I64 x) (hnk : nk ≤ maxLen) (ra : Rd W W.heap.size 1 Aa na (la.map (Value.int .i64))) (hla : ∀ x ∈ la, I64 x) (hna : na ≤ maxLen) (rb : Rd W W.heap.size 1 Ab nb (lb.map (Value.int .i64))) (hnb : nb ≤ maxLen) :
    Calls Try.prog 10 #[.slice A n c, .slice Ak nk ck, .slice Aa na ca, .slice Ab nb cb] W fun e w' => e = .returned (.bool true) ∧ Below W.heap.size W w' := by
  have hll : l.length = n := by have := rd.1; simpa using this
  have HL := Lib.hid (take20 hll)
  have RD := Lib.hid rd
  have RK := Lib.hid rk
  have RA := Lib.hid ra
  have RB := Lib.hid rb
  have HLK := Lib.hid hlk
  have HLA := Lib.hid hla
  have HN := Lib.hid hn
  have HC := Lib.hid hc
  unfold maxLen at hna hnb hnk
  clear rd hn hc hll ra rb rk hla hlk
  go_enter Try.func10, Try.ntmps10
  go_wp2_with fail
  refine (cells_any A n c l _ RD.out HN.out HC.out).mono ?_
  rintro e w1 ⟨A1, c1, rfl, hm1, hm2, o1, hb1⟩
  obtain ⟨N, hN⟩ : ∃ N, min n 20 = N := ⟨_, rfl⟩
  obtain ⟨cs0, hcs⟩ : ∃ cs, l.take 20 = cs := ⟨_, rfl⟩
  have hN20 : N ≤ 20 := by rw [← hN]; exact Nat.min_le_right _ _
  rw [hN, hcs] at o1 HL
  rw [hN]
  have R1 := Lib.hid (rd_own o1)
  have HB1 := Lib.hid hb1
  clear o1 hN hcs hb1 hm1 hm2
  go_wp2_with fail
  refine (new_any A1 N c1 cs0 _ R1.out (by omega)).mono ?_
  rintro e w2 ⟨g, bc, bn, f0, rfl, T, n2, hb2⟩
  have T2 := Lib.hid T
  have HB2 := Lib.hid (b_call HB1.out hb2)
  have HF := Lib.hid (show ∀ k, TF g bc bn k → W.heap.size ≤ k ∧ k < w2.heap.size from fun k hk => ⟨Nat.le_trans HB1.out.size (n2 k hk), T.lt hk⟩)
  have R2 := Lib.hid (rd_step R1.out hb2)
  clear T hb2 n2 RD R1 HB1
  obtain ⟨B, hB⟩ : ∃ B, w2.heap.size = B := ⟨_, rfl⟩
  have HBB := Lib.hid hB
  have OE := Lib.hid (own_nil w2 B 25 3)
  have OE2 := Lib.hid (own_nil w2 B 3 1)
  clear hB
  go_upto_block 0 with (fail)
  go_cut [11, 12] from 13 to 61 (fun s11 s12 wr => ∃ (i : Nat) (Al : Option Addr) (cl : Nat) (Ao : Option Addr) (co : Nat) (rs : List LfR), i ≤ 6 ∧ s11 = .slice Al i cl ∧ s12 = .slice Ao i co ∧ Hid (wr.ownsRow B 25 3 (.slice Al i cl) i (lfCs rs)) ∧ Hid (LfOwn wr B rs) ∧ Hid (wr.ownsRow B 3 1 (.slice Ao i co) i ((rs.map LfR.ix).map (Value.int .i64))) ∧ Hid (∀ r ∈ rs, TrueLf cs0 r) ∧ Hid (Below w2.heap.size w2 wr))
  case first =>
    go_wp2
    go_loopw [11, 12, 13] (fun s11 s12 s13 wr => ∃ (i : Nat) (Al : Option Addr) (cl : Nat) (Ao : Option Addr) (co : Nat) (rs : List LfR), i ≤ 6 ∧ s13 = .int .i64 i ∧ s11 = .slice Al i cl ∧ s12 = .slice Ao i co ∧ Hid (wr.ownsRow B 25 3 (.slice Al i cl) i (lfCs rs)) ∧ Hid (LfOwn wr B rs) ∧ Hid (wr.ownsRow B 3 1 (.slice Ao i co) i ((rs.map LfR.ix).map (Value.int .i64))) ∧ Hid (∀ r ∈ rs, TrueLf cs0 r) ∧ Hid (Below w2.heap.size w2 wr)) (fun _ _ s _ => 6 - (intOf s).toNat)
    case atStart => exact ⟨0, none, 0, none, 0, [], by omega, rfl, rfl, rfl, OE, Lib.hid (LfOwn.nil _ _), OE2, Lib.hid (by simp), Lib.hid (Below.refl _ _)⟩
    case round =>
      clear OE OE2
      obtain ⟨i, Al, cl, Ao, co, rs, hi, rfl, rfl, rfl, HO, HLo, HK, HTr, HBw⟩ := hrel
      by_cases hlt : i < nk ∧ i < 6 ∧ 0 < N
      · obtain ⟨h1, h2, h3⟩ := hlt
        have d1 : decide ((i : Int) < (nk : Int)) = true := by simp; omega
        have d1' : decide (i < nk) = true := by simp; omega
        have d2 : decide ((i : Int) < 6) = true := by simp; omega
        have d3 : decide (0 < (N : Int)) = true := by simp; omega
        have d3' : decide (0 < N) = true := by simp; omega
        have HBW := Lib.hid (b_call HB2.out HBw.out)
        obtain ⟨bk, ok, lk1, rfl, hbk, tck⟩ := (RK.out.below HBW.out (Nat.le_refl _)).openMap h1
        obtain ⟨x1, x2⟩ := HLK.out _ (List.getElem_mem lk1)
        obtain ⟨x, hx⟩ : ∃ x, lk[i] = x := ⟨_, rfl⟩
        rw [hx] at tck x1 x2
        have hk := around_bd x (N : Int) (by omega)
        obtain ⟨k, hk0⟩ : ∃ k : Nat, around x (N : Int) = k := ⟨(around x (N : Int)).toNat, by omega⟩
        rw [hk0] at hk
        have hkl : k < cs0.length := by rw [HL.out]; omega
        have HK0 := Lib.hid hk0
        clear hx hk0 lk1 hk
        go_wp2_with fail
        refine (around_any x (N : Int) _ x1 x2 (by omega) (by omega)).mono ?_
        rintro e w_ ⟨rfl, rfl⟩
        rw [HK0.out]
        clear x1 x2 HK0
        have Tw := Lib.hid (T2.out.call HBw.out)
        go_wp2_with fail
        refine (prove_yes g bc bn cs0 f0 k _ Tw.out hkl).mono ?_
        rintro e w5 ⟨Ax, cx, rfl, own5, k3, k4, hb5⟩
        have HTL := Lib.hid (show TrueLf cs0 ⟨k, cs0[k], Ax, (prfV cs0 k (List.range (hgt cs0.length))).length, cx, prfV cs0 k (List.range (hgt cs0.length))⟩ from ⟨k, hkl, rfl, rfl, rfl⟩)
        obtain ⟨prf, hprf⟩ : ∃ p, prfV cs0 k (List.range (hgt cs0.length)) = p := ⟨_, rfl⟩
        obtain ⟨v, hv⟩ : ∃ v, cs0[k] = v := ⟨_, rfl⟩
        rw [hprf] at own5 HTL
        rw [hv] at HTL
        rw [hprf, hv]
        obtain ⟨xm, hxm⟩ : ∃ m, prf.length = m := ⟨_, rfl⟩
        rw [hxm] at own5 HTL
        rw [hxm]
        have hs5 := hb5.size
        have hwB := HBw.out.size
        have hBB := HBB.out
        have hBw2 : B ≤ wr.heap.size := by omega
        have OW := Lib.hid (own_below (own_below HO.out hb5) (b_alloc (Below.refl w5.heap.size w5) (.cells #[.int .i64 k, .int .i64 v, .slice Ax xm cx] 25)))
        have RBl := Lib.hid (rd_lit w5 #[.int .i64 k, .int .i64 v, .slice Ax xm cx] 25 (sz := 3) (m := 1) (xs := lfC ⟨k, v, Ax, xm, cx, prf⟩) rfl rfl)
        have HLW := Lib.hid ((HLo.out.below hb5).snoc (r := ⟨k, v, Ax, xm, cx, prf⟩) (own_mono own5 hBw2))
        have HKW := Lib.hid (own_below (own_below HK.out hb5) (b_alloc (Below.refl w5.heap.size w5) (.cells #[.int .i64 k, .int .i64 v, .slice Ax xm cx] 25)))
        have HB5 := Lib.hid (b_alloc (b_call HBw.out hb5) (.cells #[.int .i64 k, .int .i64 v, .slice Ax xm cx] 25))
        have hbase : B ≤ (w5.alloc (.cells #[.int .i64 k, .int .i64 v, .slice Ax xm cx] 25)).heap.size := by simp; omega
        have HTr2 := Lib.hid (show ∀ r ∈ rs ++ [⟨k, v, Ax, xm, cx, prf⟩], TrueLf cs0 r from fun r hr => by
          rcases List.mem_append.1 hr with h | h
          · exact HTr.out r h
          · simp at h
            subst h
            exact HTL.out)
        clear own5 hb5 HO HLo HTr HTL Tw hprf hv hxm k3 k4 HK tck
        go_upto_region 12 with (first | (refine wpList_build1 rfl (.tmp 55) slLeafE rfl (by omega) #[.int .i64 k, .int .i64 v, .slice Ax xm cx] rfl rfl ?_) | (at_builtin; refine wpList_app _ rfl (.tmp 52) (.tmp 56) slLeafE rfl (v := .slice Al i cl) rfl OW.out rfl RBl.out (lfC_oneE _) (i + 1) rfl (by unfold maxLen; omega) (by omega) hbase ?_; intro A8 c8 w6 g1 g2 g3 g4 g5))
        have HO6 := Lib.hid g3
        rw [← lfCs_snoc] at HO6
        have HL6 := Lib.hid ((HLW.out.below (b_alloc (Below.refl _ _) _)).grown OW.out g4)
        have HK6 := Lib.hid (own_other HKW.out OW.out (of_decide_eq_false (by kernel_rfl)) g4)
        have HB6 := Lib.hid (below_app HB5.out OW.out g4 (by omega) (by omega))
        have hB6 : B ≤ w6.heap.size := by have := g4.size; omega
        clear g1 g2 g3 g4 g5 OW RBl HLW HB5 hbase HKW
        go_wp2_with (at_builtin; refine wpList_app _ rfl (.tmp 58) (.tmp 60) slInts rfl (v := .slice Ao i co) rfl (own_below HK6.out (b_alloc (Below.refl w6.heap.size w6) (.cells #[.int .i64 k] 3))) rfl (rd_lit w6 _ _ rfl rfl) (by intro u hu; simp at hu; subst hu; rfl) (i + 1) rfl (by unfold maxLen; omega) (by omega) (by simp; omega) ?_; intro A9 c9 w7 g1 g2 g3 g4 g5)
        have hK7 := own_below HK6.out (b_alloc (Below.refl w6.heap.size w6) (.cells #[.int .i64 k] 3))
        have HK7 := Lib.hid (Lib.hid (show w7.ownsRow B 3 1 (.slice A9 (i + 1) c9) (i + 1) (((rs ++ [(⟨k, v, Ax, xm, cx, prf⟩ : LfR)]).map LfR.ix).map (Value.int .i64)) from by simpa using g3))
        have HO7 := Lib.hid (Lib.hid (own_other (own_below HO6.out (b_alloc (Below.refl w6.heap.size w6) (.cells #[.int .i64 k] 3))) hK7 (of_decide_eq_false (by kernel_rfl)) g4))
        have HL7 := Lib.hid (Lib.hid ((HL6.out.below (b_alloc (Below.refl w6.heap.size w6) (.cells #[.int .i64 k] 3))).other hK7 (of_decide_eq_false (by kernel_rfl)) g4))
        have HB7 := Lib.hid (Lib.hid (below_app (b_alloc HB6.out _) hK7 g4 (by omega) (by simp; omega)))
        have HT7 := Lib.hid HTr2
        clear g1 g2 g3 g4 g5 hK7 HO6 HL6 HB6 HK6
        go_roundw
        case rel => exact ⟨i + 1, A8, c8, A9, c9, _, by omega, by go_num, rfl, rfl, HO7.out, HL7.out, HK7.out, HT7.out, HB7.out⟩
        case measure => simp [intOf]; omega
      · rcases (show ¬ i < nk ∨ (i < nk ∧ ¬ i < 6) ∨ (i < nk ∧ i < 6 ∧ ¬ 0 < N) by omega) with h | ⟨h1, h2⟩ | ⟨h1, h2, h3⟩
        · have d1 : decide ((i : Int) < (nk : Int)) = false := by simp; omega
          have d1' : decide (i < nk) = false := by simp; omega
          clear hlt h
          go_wp2
          go_meet
          case rel => exact ⟨i, Al, cl, Ao, co, rs, hi, rfl, rfl, HO, HLo, HK, HTr, HBw⟩
        · have d1 : decide ((i : Int) < (nk : Int)) = true := by simp; omega
          have d1' : decide (i < nk) = true := by simp; omega
          have d2 : decide ((i : Int) < 6) = false := by simp; omega
          clear hlt h1 h2
          go_wp2
          go_meet
          case rel => exact ⟨i, Al, cl, Ao, co, rs, hi, rfl, rfl, HO, HLo, HK, HTr, HBw⟩
        · have d1 : decide ((i : Int) < (nk : Int)) = true := by simp; omega
          have d1' : decide (i < nk) = true := by simp; omega
          have d2 : decide ((i : Int) < 6) = true := by simp; omega
          have d3 : decide (0 < (N : Int)) = false := by simp; omega
          have d3' : decide (0 < N) = false := by simp; omega
          clear hlt h1 h2 h3
          go_wp2
          go_meet
          case rel => exact ⟨i, Al, cl, Ao, co, rs, hi, rfl, rfl, HO, HLo, HK, HTr, HBw⟩
  case rest =>
    clear OE OE2
    obtain ⟨m, Al, cl, Ao, co, rs, hm, rfl, rfl, HO, HLo, HK, HTr, HBw⟩ := hcut
    obtain ⟨Z, rfl⟩ : ∃ Z : World, Z = wc := ⟨_, rfl⟩
    have TZ := Lib.hid (T2.out.call HBw.out)
    have R1Z := Lib.hid (rd_step R2.out HBw.out)
    have HNP := Lib.hid (pt_new cs0 (by rw [HL.out]; omega) m cl Al rs Z (LfRows.of_own HO.out HLo.out) (by omega) HTr.out)
    have HR := Lib.hid (troot_any TZ.out)
    obtain ⟨rt, hrt⟩ : ∃ r, nV cs0 (hgt cs0.length) 0 = r := ⟨_, rfl⟩
    rw [hrt] at HNP HR
    rw [HL.out] at HNP
    obtain ⟨ks, hks⟩ : ∃ k, rs.map LfR.ix = k := ⟨_, rfl⟩
    have HKB := Lib.hid (show ∀ x ∈ ks, 0 ≤ x ∧ x < (N : Int) from fun x hx => by
      rw [← hks] at hx
      obtain ⟨r, hr, rfl⟩ := List.mem_map.1 hx
      obtain ⟨i, hi, e1, _⟩ := HTr.out r hr
      rw [HL.out] at hi
      omega)
    rw [hks] at HNP HK
    have hBw := HBw.out.size
    have hBB := HBB.out
    have hBZ : B ≤ Z.heap.size := by omega
    have hWB : W.heap.size ≤ B := by have := HB2.out.size; omega
    clear hrt hks HO HLo HTr T2 R2
    go_wp2_with fail
    refine HR.out.mono ?_
    rintro e w_ ⟨rfl, rfl⟩
    go_wp2_with fail
    refine HNP.out.mono ?_
    rintro e w4 ⟨gp, bcp, bnp, rfl, P4', F4', hb4⟩
    have P4 := Lib.hid P4'
    have F4 := Lib.hid F4'
    have T4 := Lib.hid (TZ.out.call hb4)
    have R4 := Lib.hid (rd_step R1Z.out hb4)
    have K4 := Lib.hid (own_below HK.out hb4)
    have B4 := Lib.hid (b_call (b_call HB2.out HBw.out) hb4)
    have hs4 := hb4.size
    clear P4' F4' hb4 HNP HR TZ R1Z
    have hW4 : W.heap.size ≤ w4.heap.size := by omega
    have OE := Lib.hid (own_shut (base := W.heap.size) (sz := 1) (N := 0) (c := 0) (xs := []) hW4 (Vr.new w4 3 #[]) (by simp) (by simp) (Nat.le_refl _) (by simp [maxLen]) (by simp))
    go_upto_block 2 with (at_builtin; refine wpList_app _ rfl (.tmp 77) (.tmp 78) slInts rfl (v := .slice (some ⟨w4.heap.size, 0, none⟩) 0 0) rfl OE.out rfl (rd_step R4.out (b_alloc (Below.refl _ _) _)) (ints_one _ _) N (Nat.zero_add _) (by unfold maxLen; omega) (by omega) (by simp; omega) ?_; intro A9 c9 w5 g1 g2 g3 g4 g5)
    have HS := Lib.hid (show SP W w5 g bc bn gp bcp bnp N A9 c9 Ao m co cs0 ks f0 (1 + 21 * m) from by
      have hw5 := g4.size
      simp at hw5
      have hO : Only (· = w4.heap.size) w4 w5 := (o_alloc (Only.refl _ _) _).grown g4 (fun x e => .inl (by simpa [Value.ownBlock] using e.symm))
      have hr9 : ∀ x, (Value.slice A9 N c9).ownBlock = some x → w4.heap.size ≤ x ∧ x < w5.heap.size := fun x e => by
        obtain ⟨_, cur, hcc⟩ := own_cells g3 e
        refine ⟨?_, (Array.getElem?_eq_some_iff.1 hcc).1⟩
        rcases g5 with h | h <;> rw [h] at e
        · simp [Value.ownBlock] at e; omega
        · injection e with e; simp at e; omega
      have hrk : ∀ x, (Value.slice Ao m co).ownBlock = some x → B ≤ x ∧ x < Z.heap.size := fun x e => by
        obtain ⟨h1, cur, hcc⟩ := own_cells HK.out e
        exact ⟨h1, (Array.getElem?_eq_some_iff.1 hcc).1⟩
      refine ⟨P4.out.only hO (fun k hk e => by have := P4.out.lt hk; omega), T4.out.only hO (fun k hk e => by have := HF.out k hk; omega), HL.out, by simpa using g3, own_mono (own_only K4.out hO (fun x e h => by have := hrk x e; omega)) hWB, fun x e => ?_, fun x e => ?_, fun x e h => ?_, fun x e => (HF.out x e).1, fun x e => ?_, HKB.out, B4.out.trans (hO.below (B := W.heap.size) B4.out.size (fun k e => by omega))⟩
      · have h1 := hr9 x e
        exact ⟨fun h => by have := HF.out x h; omega, fun h => by have := P4.out.lt h; omega, fun h => by have := hrk x h; omega⟩
      · have h1 := hrk x e
        exact ⟨fun h => by have := HF.out x h; omega, fun h => by have := F4.out x h; omega⟩
      · have h1 := HF.out x e
        have h2 := F4.out x h
        omega
      · have := F4.out x e
        omega)
    clear g1 g2 g3 g4 g5 OE P4 F4 T4 R4 K4 B4 HK HBw HB2 HF HKB HBB
    go_cut [] from 18 to 136 (fun wr => ∃ (cs : List Int) (f : Nat → Int) (M : Nat), M ≤ 1000 ∧ Hid (SP W wr g bc bn gp bcp bnp N A9 c9 Ao m co cs ks f M))
    case first =>
      go_wp2
      go_loopw [18] (fun s18 wr => ∃ (i : Nat) (cs : List Int) (f : Nat → Int) (M : Nat), i ≤ 8 ∧ M ≤ 1 + 21 * m + 12 * i ∧ s18 = .int .i64 i ∧ Hid (SP W wr g bc bn gp bcp bnp N A9 c9 Ao m co cs ks f M)) (fun s _ => 8 - (intOf s).toNat)
      case atStart => exact ⟨0, cs0, f0, 1 + 21 * m, by omega, by omega, rfl, HS⟩
      case round =>
        clear HS
        obtain ⟨i, cs, f, M, hi, hM, rfl, HS⟩ := hrel
        by_cases hlt : i < na ∧ i < nb ∧ i < 8
        · obtain ⟨h1, h2, h3⟩ := hlt
          have d1 : decide ((i : Int) < (na : Int)) = true := by simp; omega
          have d1' : decide (i < na) = true := by simp; omega
          have d2 : decide ((i : Int) < (nb : Int)) = true := by simp; omega
          have d2' : decide (i < nb) = true := by simp; omega
          have d3 : decide ((i : Int) < 8) = true := by simp; omega
          obtain ⟨ba, oa, la1, rfl, hba, tca⟩ := (RA.out.below HS.out.hb (Nat.le_refl _)).openMap h1
          obtain ⟨bb, ob, lb1, rfl, hbb, tcb⟩ := (RB.out.below HS.out.hb (Nat.le_refl _)).openMap h2
          obtain ⟨x1, x2⟩ := HLA.out _ (List.getElem_mem la1)
          obtain ⟨x, hx⟩ : ∃ x, la[i] = x := ⟨_, rfl⟩
          obtain ⟨v, hv⟩ : ∃ v, lb[i] = v := ⟨_, rfl⟩
          have hcW : ∀ w', Below W.heap.size W w' → w'.cell? ⟨bb, ob + i, none⟩ = some (.int .i64 v) := fun w' hb => by
            obtain ⟨b7, o7, l7, e7, h7, t7⟩ := (RB.out.below hb (Nat.le_refl _)).openMap h2
            injection e7 with e7
            injection e7 with e7 e8
            subst e7 e8
            rw [t7, ← hv]
          have HCW := Lib.hid hcW
          rw [hx] at tca x1 x2
          rw [hv] at tcb
          have hk := around_bd x ((N : Int) + 2) (by omega)
          obtain ⟨k, hk0⟩ : ∃ k, around x ((N : Int) + 2) = k := ⟨_, rfl⟩
          rw [hk0] at hk
          have HK0 := Lib.hid hk0
          have e1 : IntKind.i64.wrap ((N : Int) + 2) = (N : Int) + 2 := IntWalk.i64_in _ (by omega)
          have e2 : IntKind.i64.wrap (k - 1) = k - 1 := IntWalk.i64_in _ (by omega)
          clear hx hv hk0 la1 lb1 hcW
          go_wp2_with fail
          refine (around_any x ((N : Int) + 2) _ x1 x2 (by omega) (by omega)).mono ?_
          rintro e w_ ⟨rfl, rfl⟩
          rw [HK0.out]
          clear e1 x1 x2 HK0
          go_wp2_with fail
          refine (has_any Ao m co ks (k - 1) _ (by omega) (rd_own HS.out.rk)).mono ?_
          rintro e w_ ⟨rfl, rfl⟩
          clear e2
          by_cases hin : k - 1 ∈ ks
          · have q1 : decide (k - 1 ∈ ks) = true := decide_eq_true hin
            rw [q1]
            have hkb := HS.out.kb _ hin
            obtain ⟨j, hj⟩ : ∃ j : Nat, k - 1 = j := ⟨(k - 1).toNat, by omega⟩
            rw [hj] at hin hkb ⊢
            have hjN : j < N := by omega
            have hjl : j < cs.length := by rw [HS.out.L]; exact hjN
            have HIn := Lib.hid hin
            clear q1 hj hkb hin
            go_wp2_with fail
            refine (pt_set HS.out.P (by omega) (by rw [HS.out.L]; omega) j v HIn.out).mono ?_
            rintro e w6 ⟨rfl, P6', O6'⟩
            have P6 := Lib.hid P6'
            have O6 := Lib.hid O6'
            have HM6 := Lib.hid (HS.out.mid O6')
            clear P6' O6'
            obtain ⟨g9, cur, h9, hg9, V9, hcur, hnc9, hcs9⟩ := own_open HM6.out.2.1 (by omega)
            have tcb6 := HCW.out _ HM6.out.2.2.2
            have hf9 := V9.frozen j
            have hz9 : ∃ u, w6.cell? ⟨g9, j, none⟩ = some u := by
              rw [V9.cell]
              exact ⟨_, Array.getElem?_eq_getElem (by omega)⟩
            obtain ⟨u9, hu9⟩ := hz9
            have hl9 := V9.lt
            have q2 : decide ((j : Int) < (N : Int)) = true := by simp; omega
            have q2' : decide (j < N) = true := by simp; omega
            subst h9
            clear hcur hcs9 V9 hnc9 hg9 tcb
            go_upto_region 26 with (fail)
            refine name_world ?_
            intro X hX
            have HT8 := Lib.hid (show Tr X g bc bn cs f from by rw [hX]; exact (SP.midT HS.out rfl O6.out).1)
            have tcbX := HCW.out X (by rw [hX]; exact (SP.midT HS.out rfl O6.out).2)
            have HX := Lib.hid hX
            clear hX hu9 hf9 tcb6 hl9
            go_wp2_with fail
            refine (tset_yes g bc bn cs f j v _ HT8.out hjl).mono ?_
            rintro e w8 ⟨⟨u, rfl⟩, ⟨f8, T8⟩, O8⟩
            have HS8 := Lib.hid (SP.fin HS.out rfl hjN P6.out O6.out T8 (by rw [← HX.out]; exact O8))
            clear T8 O8 HS P6 O6 HM6 HT8 tcbX HX HCW
            obtain ⟨c8, hc8⟩ : ∃ z, cs.set j v = z := ⟨_, rfl⟩
            rw [hc8] at HS8
            clear hc8
            obtain ⟨rt8, hrt8⟩ : ∃ r, nV c8 (hgt c8.length) 0 = r := ⟨_, rfl⟩
            have HR8 := Lib.hid hrt8
            clear hrt8
            go_wp2_with fail
            refine (pt_root HS8.out.P).mono ?_
            rintro e w9 ⟨rfl, hb9⟩
            rw [HR8.out]
            have HS9 := Lib.hid (Lib.hid (HS8.out.call hb9))
            clear hb9 HS8
            go_wp2_with fail
            refine (troot_any HS9.out.out.T).mono ?_
            rintro e w_ ⟨rfl, rfl⟩
            rw [HR8.out]
            have q8 : (rt8 != rt8) = false := bne_self_eq_false rt8
            go_wp2
            go_roundw
            case rel => exact ⟨i + 1, c8, f8, _, by omega, by omega, by go_num, HS9.out⟩
            case measure => simp [intOf]; omega
          · have q1 : decide (k - 1 ∈ ks) = false := decide_eq_false hin
            rw [q1]
            have HIn := Lib.hid hin
            clear q1 hin
            go_wp2_with fail
            refine (pt_set_no HS.out.P (k - 1) v (by unfold I64; omega) HIn.out).mono ?_
            rintro e w6 ⟨rfl, hb6⟩
            have HS6 := Lib.hid (HS.out.call hb6)
            clear hb6 HS tcb HCW
            obtain ⟨rt8, hrt8⟩ : ∃ r, nV cs (hgt cs.length) 0 = r := ⟨_, rfl⟩
            have HR8 := Lib.hid hrt8
            clear hrt8
            go_wp2_with fail
            refine (pt_root HS6.out.P).mono ?_
            rintro e w9 ⟨rfl, hb9⟩
            rw [HR8.out]
            have HS9 := Lib.hid (Lib.hid (HS6.out.call hb9))
            clear hb9 HS6
            go_wp2_with fail
            refine (troot_any HS9.out.out.T).mono ?_
            rintro e w_ ⟨rfl, rfl⟩
            rw [HR8.out]
            have q8 : (rt8 != rt8) = false := bne_self_eq_false rt8
            go_wp2
            go_roundw
            case rel => exact ⟨i + 1, cs, f, M, by omega, by omega, by go_num, HS9.out⟩
            case measure => simp [intOf]; omega
        · rcases (show ¬ i < na ∨ (i < na ∧ ¬ i < nb) ∨ (i < na ∧ i < nb ∧ ¬ i < 8) by omega) with h | ⟨h1, h2⟩ | ⟨h1, h2, h3⟩
          · have d1 : decide ((i : Int) < (na : Int)) = false := by simp; omega
            have d1' : decide (i < na) = false := by simp; omega
            clear hlt h
            go_wp2
            go_meet
            case rel => exact ⟨cs, f, M, by omega, HS⟩
          · have d1 : decide ((i : Int) < (na : Int)) = true := by simp; omega
            have d1' : decide (i < na) = true := by simp; omega
            have d2 : decide ((i : Int) < (nb : Int)) = false := by simp; omega
            have d2' : decide (i < nb) = false := by simp; omega
            clear hlt h1 h2
            go_wp2
            go_meet
            case rel => exact ⟨cs, f, M, by omega, HS⟩
          · have d1 : decide ((i : Int) < (na : Int)) = true := by simp; omega
            have d1' : decide (i < na) = true := by simp; omega
            have d2 : decide ((i : Int) < (nb : Int)) = true := by simp; omega
            have d2' : decide (i < nb) = true := by simp; omega
            have d3 : decide ((i : Int) < 8) = false := by simp; omega
            clear hlt h1 h2 h3
            go_wp2
            go_meet
            case rel => exact ⟨cs, f, M, by omega, HS⟩
    case rest =>
      clear HS
      obtain ⟨cs, f, M, hM, HS⟩ := hcut
      go_wp2
      go_loopw [21] (fun s21 wr => ∃ k : Int, -1 ≤ k ∧ k ≤ (N : Int) + 1 ∧ s21 = .int .i64 k ∧ Hid (SP W wr g bc bn gp bcp bnp N A9 c9 Ao m co cs ks f M)) (fun s _ => ((N : Int) + 1 - intOf s).toNat)
      case atStart => exact ⟨-1, by omega, by omega, rfl, HS⟩
      case round =>
        clear HS
        obtain ⟨k, hk1, hk2, rfl, HS⟩ := hrel
        by_cases hlt : k ≤ (N : Int)
        · have d1 : decide (k ≤ (N : Int)) = true := by simp; omega
          have HG := pt_get HS.out.P k (by unfold I64; omega)
          have HH := has_any Ao m co ks k _ (by omega) (rd_own HS.out.rk)
          have e9 : IntKind.i64.wrap (k + 1) = k + 1 := IntWalk.i64_in _ (by omega)
          by_cases hin : k ∈ ks
          · rw [if_pos hin, decide_eq_true hin] at HG
            rw [decide_eq_true hin] at HH
            have hkb := HS.out.kb _ hin
            clear hin
            obtain ⟨j, rfl⟩ : ∃ j : Nat, k = (j : Int) := ⟨k.toNat, by omega⟩
            have hjN : j < N := by omega
            obtain ⟨b9, o9, l9, rfl, hb9, t9⟩ := (rd_own HS.out.o9).openMap (k := j) hjN
            have hgd : cs.getD (j : Int).toNat 0 = cs[j] := by simp [l9]
            rw [hgd] at HG
            obtain ⟨y, hy⟩ : ∃ y, cs[j] = y := ⟨_, rfl⟩
            rw [hy] at HG t9
            have q1 : (y != y) = false := bne_self_eq_false y
            have q2 : max (j : Int) 0 = (j : Int) := by omega
            have q3 : decide ((j : Int) < (N : Int)) = true := by simp; omega
            have HGh := Lib.hid HG
            have HHh := Lib.hid HH
            clear HG HH hy hgd l9 hkb
            go_wp2_with fail
            refine HGh.out.mono ?_
            rintro e w_ ⟨rfl, rfl⟩
            go_wp2_with fail
            refine HHh.out.mono ?_
            rintro e w_ ⟨rfl, rfl⟩
            go_wp2
            go_roundw
            case rel => first | exact ⟨(j : Int) + 1, by omega, by omega, by go_num, HS⟩ | ((repeat apply Exists.intro); exact ⟨⟨by omega, by omega, by go_num, HS⟩, rfl⟩)
            case measure => simp [intOf]; omega
          · rw [if_neg hin, decide_eq_false hin] at HG
            rw [decide_eq_false hin] at HH
            have HGh := Lib.hid HG
            have HHh := Lib.hid HH
            clear HG HH hin
            go_wp2_with fail
            refine HGh.out.mono ?_
            rintro e w_ ⟨rfl, rfl⟩
            go_wp2_with fail
            refine HHh.out.mono ?_
            rintro e w_ ⟨rfl, rfl⟩
            go_wp2
            go_roundw
            case rel => exact ⟨k + 1, by omega, by omega, by go_num, HS⟩
            case measure => simp [intOf]; omega
        · have d1 : decide (k ≤ (N : Int)) = false := by simp; omega
          clear hlt
          obtain ⟨rt8, hrt8⟩ : ∃ r, nV cs (hgt cs.length) 0 = r := ⟨_, rfl⟩
          have HR8 := Lib.hid hrt8
          clear hrt8
          go_wp2_with fail
          refine (pt_root HS.out.P).mono ?_
          rintro e w9 ⟨rfl, hb9⟩
          rw [HR8.out]
          have HS9 := Lib.hid (HS.out.call hb9)
          clear hb9 HS
          go_wp2_with fail
          refine (rroot_any A9 N c9 cs _ (rd_own HS9.out.o9) (by omega)).mono ?_
          rintro e w10 ⟨rfl, hb10⟩
          rw [HR8.out]
          have q8 : (rt8 == rt8) = true := beq_self_eq_true rt8
          have B10 := Lib.hid (b_call HS9.out.hb hb10)
          clear hb10 HS9
          go_wp2_with fail
          refine (lives_any _).mono ?_
          rintro e w11 ⟨rfl, hb11⟩
          have B11 := Lib.hid (b_call B10.out hb11)
          go_wp2
          go_ret
          exact ⟨rfl, B11.out⟩
end Go.Proofs.Ytgelhcgaacnjcaa
