/-
  WHAT IS PROVED HERE: the walk of the law JournalRecovers: it returns true at every input and leaves old memory as it was. Conditions: the arguments' lengths are a machine's.
-/
import Derived.Test.YtmoajnekegbncaaJnQ
namespace Go.Proofs.Ytmoajnekegbncaa
set_option linter.unusedVariables false
open Go.ChangeShapes Go.WideShapes Go.ChangeAt Go.RowKit

theorem leftN_nat {k N : Nat} (h : k ≤ N) : leftN (k : Int) N = k := by unfold leftN; rw [if_neg (by omega)]; omega
theorem leftN_neg (N : Nat) : leftN (-1) N = 0 := by unfold leftN; rw [if_pos (by omega)]
theorem leftN_big (N : Nat) : leftN ((N : Int) + 7) N = N := by unfold leftN; rw [if_neg (by omega)]; omega
set_option maxRecDepth 100000 in
set_option maxHeartbeats 8000000 in
theorem jrecovers_walk (A0 : Option Addr) (n0 c0 : Nat) (l0 : List Int) (left : Int) (A2 : Option Addr) (n2 c2 : Nat) (l2 : List Int) (w : World) (rd0 : Rd w w.heap.size 1 A0 n0 (l0.map (Value.int .i64))) (hI : ∀ x ∈ l0, -9223372036854775808 ≤ x ∧ x ≤ 9223372036854775807) (hn0 : n0 ≤ 9223372036854775807)
    (hl : -9223372036854775808 ≤ left ∧ left ≤ 9223372036854775807) (rd2 : Rd w w.heap.size 1 A2 n2 (l2.map (Value.int .u8))) (hB2 : ∀ x ∈ l2, 0 ≤ x ∧ x ≤ 255) (nc2 : n2 ≤ c2) (cm2 : c2 ≤ maxLen) :
    Calls Try.prog 9 #[.slice A0 n0 c0, .int .i64 left, .slice A2 n2 c2] w fun e w' => e = .returned (.bool true) ∧ Below w.heap.size w w' := by
  have hl2 : l2.length = n2 := by have := rd2.1; simpa using this
  have R0 := Lib.hid rd0
  have R2 := Lib.hid rd2
  have HI := Lib.hid hI
  have HN2 := Lib.hid (And.intro nc2 cm2)
  have HL2 := Lib.hid hl2
  have HB2 := Lib.hid hB2
  obtain ⟨hl1, hl3⟩ := hl
  clear rd0 hI rd2 hB2 nc2 cm2 hl2
  go_enter Try.func9, Try.ntmps9
  go_wp2_with fail
  refine (refrecords_any A0 n0 c0 l0 _ R0.out HI.out hn0).mono ?_
  rintro e w1 ⟨recs, hrl, hrs, A1, c1, vs, rfl, hc1, hm1, own1, rows1, hb1⟩
  have HRL := Lib.hid hrl
  obtain ⟨m, hm⟩ : ∃ m, recs.length = m := ⟨_, rfl⟩
  have HFL := Lib.hid (recs_len hrl hrs)
  rw [hm] at own1 hc1 hrl ⊢
  have HM := Lib.hid hm
  have HRS := Lib.hid (hrs.mono (show 140 ≤ 4000 by omega))
  have HRS1 := Lib.hid hrs
  have RV1 := Lib.hid (rd_own own1)
  have RW1 := Lib.hid rows1
  have B1 := Lib.hid hb1
  clear hm hrs own1 rows1 hb1
  go_wp2_with fail
  refine (filled_any A1 m c1 _ vs recs _ RV1.out RW1.out HRS.out (by omega)).mono ?_
  rintro e w2 ⟨g, F, rfl, hlg, hF, hb2⟩
  have LG2 := Lib.hid hlg
  have HF2 := Lib.hid hF
  have B2 := Lib.hid hb2
  clear hlg hF hb2
  obtain ⟨N, hN⟩ : ∃ N, (framesI recs).length = N := ⟨_, rfl⟩
  have HN := Lib.hid hN
  have hN1 : N ≤ 1500 := by rw [← hN]; exact HFL.out
  clear hN
  go_wp2_with fail
  refine (lbytes_any F g (framesI recs) _ _ N _ LG2.out HN.out (by omega)).mono ?_
  rintro e w3 ⟨A3, c3, rfl, h1, h2, own3, hb3⟩
  have LG3 := Lib.hid (LG2.out.below hb3)
  have B3 := Lib.hid (b_call B2.out hb3)
  have RB3 := Lib.hid (rd_own own3)
  unfold maxLen at h2
  clear own3 hb3 LG2 B2
  have ha := around_bd left ((N : Int) + 1) (by omega)
  go_wp2_with fail
  refine (around_any left ((N : Int) + 1) _ hl1 hl3 (by omega) (by omega)).mono ?_
  rintro e w_ ⟨rfl, rfl⟩
  obtain ⟨k, hk⟩ : ∃ k : Nat, around left ((N : Int) + 1) = (k : Int) := ⟨(around left ((N : Int) + 1)).toNat, by omega⟩
  rw [hk] at ha ⊢
  have hkN : k ≤ N := by omega
  clear ha hk
  go_upto_region 7 with (fail)
  obtain ⟨X, rfl⟩ : ∃ W : World, W = w3 := ⟨_, rfl⟩
  have LX := Lib.hid LG3.out
  have LK1 := Lib.hid (leftN_nat hkN)
  have LK2 := Lib.hid (leftN_neg N)
  have LK3 := Lib.hid (leftN_big N)
  have HTN := Lib.hid (show (framesI recs).take N = framesI recs from List.take_of_length_le (by rw [HN.out]; omega))
  have CVB := Lib.hid (cvAt c3 RB3.out)
  have CVK := Lib.hid (show CvAt X (.slice A3 k c3) ((framesI recs).take k) from cvAt c3 (by have := RB3.out.take hkN; rw [Nat.mul_one, ← List.map_take] at this; exact this))
  clear LG3
  go_cut [58] from 33 to 58 (fun s58 wx => s58 = .bool false ∧ Hid (Below X.heap.size X wx))
  case first =>
    have B0 : Below X.heap.size X X.drew := b_drew (Below.refl _ _)
    have hsl := fun (W : World) => run_slice_to slBytes A3 N c3 .i64 (k : Int) (by omega) (by omega) W
    simp only [Int.toNat_natCast] at hsl
    have hz : ((0 : Int) != 0) = false := rfl
    have hw7 : IntKind.i64.wrap ((N : Int) + 7) = (N : Int) + 7 := IntWalk.i64_in _ (by omega)
    refine wp_region_any (by kernel_rfl) ?_
    change wpAny _ _ _ _ _ _ _ (World.drew _)
    refine take_at (i := 0) (some 33) (v := ?vg2) rfl rfl (by kernel_rfl) (by kernel_rfl) (by kernel_rfl) (fun _ _ _ h => h) (Or.inl ⟨by rfl, ?hg2⟩) ?rg2
    case hg2 => (intro w0; go_simp; try with_reducible rfl)
    simp only [Act.put, List.setIfInBounds_toArray, List.set_cons_zero, List.set_cons_succ]
    refine take_at (i := 1) (some 34) (v := ?vg3) rfl rfl (by kernel_rfl) (by kernel_rfl) (by kernel_rfl) (fun _ _ _ h => h) (Or.inl ⟨by rfl, ?hg3⟩) ?rg3
    case hg3 => (intro w0; go_simp; try with_reducible rfl)
    simp only [Act.put, List.setIfInBounds_toArray, List.set_cons_zero, List.set_cons_succ]
    refine take_at (i := 4) (some 37) (v := ?vg4) rfl rfl (by kernel_rfl) (by kernel_rfl) (by kernel_rfl) (fun _ _ _ h => h) (Or.inl ⟨by rfl, ?hg4⟩) ?rg4
    case hg4 => (intro w0; go_simp; try with_reducible rfl)
    simp only [Act.put, List.setIfInBounds_toArray, List.set_cons_zero, List.set_cons_succ]
    refine take_at (i := 5) (some 38) (v := ?vg5) rfl rfl (by kernel_rfl) (by kernel_rfl) (by kernel_rfl) (fun _ _ _ h => h) (Or.inl ⟨by rfl, ?hg5⟩) ?rg5
    case hg5 => (intro w0; go_simp; try with_reducible rfl)
    simp only [Act.put, List.setIfInBounds_toArray, List.set_cons_zero, List.set_cons_succ]
    refine take_at (i := 6) (some 39) (v := ?vg6) rfl rfl (by kernel_rfl) (by kernel_rfl) (by kernel_rfl) (fun _ _ _ h => h) (Or.inl ⟨by rfl, ?hg6⟩) ?rg6
    case hg6 => (intro w0; go_simp; try with_reducible rfl)
    simp only [Act.put, List.setIfInBounds_toArray, List.set_cons_zero, List.set_cons_succ]
    clear hsl
    refine wpAny_ready (rs := [2, 7]) (by kernel_rfl) (by simp) ?_
    refine AllReady.cons (o := _) rfl (fun K hK => ?_) (AllReady.cons (o := _) rfl (fun K hK => ?_) AllReady.nil)
    · go_simp
      refine (crash_any F g (framesI recs) _ _ N (k : Int) X.drew (LX.out.below B0) HN.out (by omega) (by omega) (by omega)).mono ?_
      rw [LK1.out]
      rintro e w35 ⟨A35, c35, rfl, f35a, f35b, own35, hb35⟩
      have B35 : Below X.heap.size X w35 := b_call B0 hb35
      have CV35 := Lib.hid (cvAt c35 (rd_own own35))
      clear own35 hb35 f35a f35b
      refine hK _ _ ?_
      clear hK K
      refine wpAny_ready (rs := [3, 7]) (by kernel_rfl) (by simp) ?_
      refine AllReady.cons (o := _) rfl (fun K hK => ?_) (AllReady.cons (o := _) rfl (fun K hK => ?_) AllReady.nil)
      · refine step_conv 36 rfl (by rfl) (.tmp 35) rfl rfl (CV35.out _ (by first | exact Below.refl _ _)) ?_
        refine hK _ _ ?_
        clear hK K
        refine wpAny_ready (rs := [7]) (by kernel_rfl) (by simp) ?_
        refine AllReady.cons (o := _) rfl (fun K hK => ?_) AllReady.nil
        · refine step_conv 40 rfl (by rfl) (.tmp 39) rfl rfl (CVK.out _ (by first | exact B35 | exact B0)) ?_
          refine hK _ _ ?_
          clear hK K
          refine take_at (i := 8) (some 41) (v := ?vg8) rfl rfl (by kernel_rfl) (by kernel_rfl) (by kernel_rfl) (fun _ _ _ h => h) (Or.inl ⟨by rfl, ?hg8⟩) ?rg8
          case hg8 => (intro w0; go_simp; try with_reducible rfl)
          simp only [Act.put, List.setIfInBounds_toArray, List.set_cons_zero, List.set_cons_succ]
          refine take_at (i := 9) (some 42) (v := ?vg9) rfl rfl (by kernel_rfl) (by kernel_rfl) (by kernel_rfl) (fun _ _ _ h => h) (Or.inl ⟨by rfl, ?hg9⟩) ?rg9
          case hg9 => (intro w0; go_simp; try with_reducible rfl)
          simp only [Act.put, List.setIfInBounds_toArray, List.set_cons_zero, List.set_cons_succ]
          refine take_at (i := 10) (some 43) (v := ?vg10) rfl rfl (by kernel_rfl) (by kernel_rfl) (by kernel_rfl) (fun _ _ _ h => h) (Or.inl ⟨by rfl, ?hg10⟩) ?rg10
          case hg10 => (intro w0; go_simp; try with_reducible rfl)
          simp only [Act.put, List.setIfInBounds_toArray, List.set_cons_zero, List.set_cons_succ]
          refine wpAny_ready (rs := [11]) (by kernel_rfl) (by simp) ?_
          refine AllReady.cons (o := _) rfl (fun K hK => ?_) AllReady.nil
          go_simp
          refine (crash_any F g (framesI recs) _ _ N (-1) w35 (LX.out.below B35) HN.out (by omega) (by omega) (by omega)).mono ?_
          rw [LK2.out]
          rintro e w44 ⟨A44, c44, rfl, f44a, f44b, own44, hb44⟩
          have B44 : Below X.heap.size X w44 := b_call B35 hb44
          have CV44 := Lib.hid (cvAt c44 (rd_own own44))
          clear own44 hb44 f44a f44b
          refine hK _ _ ?_
          clear hK K
          refine take_at (i := 12) (some 45) (v := ?vg12) rfl rfl (by kernel_rfl) (by kernel_rfl) (by kernel_rfl) (fun _ _ _ h => h) (Or.inl ⟨by rfl, ?hg12⟩) ?rg12
          case hg12 => (intro w0; go_simp; try with_reducible rfl)
          simp only [Act.put, List.setIfInBounds_toArray, List.set_cons_zero, List.set_cons_succ]
          refine take_at (i := 13) (some 46) (v := ?vg13) rfl rfl (by kernel_rfl) (by kernel_rfl) (by kernel_rfl) (fun _ _ _ h => h) (Or.inl ⟨by rfl, ?hg13⟩) ?rg13
          case hg13 => (intro w0; go_simp; try with_reducible rfl)
          simp only [Act.put, List.setIfInBounds_toArray, List.set_cons_zero, List.set_cons_succ]
          refine take_at (i := 14) (some 47) (v := ?vg14) rfl rfl (by kernel_rfl) (by kernel_rfl) (by kernel_rfl) (fun _ _ _ h => h) (Or.inl ⟨by rfl, ?hg14⟩) ?rg14
          case hg14 => (intro w0; go_simp; try with_reducible rfl)
          simp only [Act.put, List.setIfInBounds_toArray, List.set_cons_zero, List.set_cons_succ]
          refine take_at (i := 15) (some 48) (v := ?vg15) rfl rfl (by kernel_rfl) (by kernel_rfl) (by kernel_rfl) (fun _ _ _ h => h) (Or.inl ⟨by rfl, ?hg15⟩) ?rg15
          case hg15 => (intro w0; go_simp; try with_reducible rfl)
          simp only [Act.put, List.setIfInBounds_toArray, List.set_cons_zero, List.set_cons_succ]
          refine take_at (i := 16) (some 49) (v := ?vg16) rfl rfl (by kernel_rfl) (by kernel_rfl) (by kernel_rfl) (fun _ _ _ h => h) (Or.inl ⟨by rfl, ?hg16⟩) ?rg16
          case hg16 => (intro w0; go_simp; try with_reducible rfl)
          simp only [Act.put, List.setIfInBounds_toArray, List.set_cons_zero, List.set_cons_succ]
          refine take_at (i := 17) (some 50) (v := ?vg17) rfl rfl (by kernel_rfl) (by kernel_rfl) (by kernel_rfl) (fun _ _ _ h => h) (Or.inl ⟨by rfl, ?hg17⟩) ?rg17
          case hg17 => (intro w0; go_simp; try with_reducible rfl)
          simp only [Act.put, List.setIfInBounds_toArray, List.set_cons_zero, List.set_cons_succ]
          refine take_at (i := 18) (some 51) (v := ?vg18) rfl rfl (by kernel_rfl) (by kernel_rfl) (by kernel_rfl) (fun _ _ _ h => h) (Or.inl ⟨by rfl, ?hg18⟩) ?rg18
          case hg18 => (intro w0; go_simp; try with_reducible rfl)
          simp only [Act.put, List.setIfInBounds_toArray, List.set_cons_zero, List.set_cons_succ]
          refine take_at (i := 19) (some 52) (v := ?vg19) rfl rfl (by kernel_rfl) (by kernel_rfl) (by kernel_rfl) (fun _ _ _ h => h) (Or.inl ⟨by rfl, ?hg19⟩) ?rg19
          case hg19 => (intro w0; go_simp; try with_reducible rfl)
          simp only [Act.put, List.setIfInBounds_toArray, List.set_cons_zero, List.set_cons_succ]
          refine take_at (i := 22) (some 55) (v := ?vg20) rfl rfl (by kernel_rfl) (by kernel_rfl) (by kernel_rfl) (fun _ _ _ h => h) (Or.inl ⟨by rfl, ?hg20⟩) ?rg20
          case hg20 => (intro w0; go_simp; try with_reducible rfl)
          simp only [Act.put, List.setIfInBounds_toArray, List.set_cons_zero, List.set_cons_succ]
          clear hw7
          refine wpAny_ready (rs := [20, 23]) (by kernel_rfl) (by simp) ?_
          refine AllReady.cons (o := _) rfl (fun K hK => ?_) (AllReady.cons (o := _) rfl (fun K hK => ?_) AllReady.nil)
          · go_simp
            refine (crash_any F g (framesI recs) _ _ N ((N : Int) + 7) w44 (LX.out.below B44) HN.out (by omega) (by omega) (by omega)).mono ?_
            rw [LK3.out, HTN.out]
            rintro e w53 ⟨A53, c53, rfl, f53a, f53b, own53, hb53⟩
            have B53 : Below X.heap.size X w53 := b_call B44 hb53
            have CV53 := Lib.hid (cvAt c53 (rd_own own53))
            clear own53 hb53 f53a f53b
            refine hK _ _ ?_
            clear hK K
            refine wpAny_ready (rs := [21, 23]) (by kernel_rfl) (by simp) ?_
            refine AllReady.cons (o := _) rfl (fun K hK => ?_) (AllReady.cons (o := _) rfl (fun K hK => ?_) AllReady.nil)
            · refine step_conv 54 rfl (by rfl) (.tmp 53) rfl rfl (CV53.out _ (by first | exact Below.refl _ _)) ?_
              refine hK _ _ ?_
              clear hK K
              refine wpAny_ready (rs := [23]) (by kernel_rfl) (by simp) ?_
              refine AllReady.cons (o := _) rfl (fun K hK => ?_) AllReady.nil
              · refine step_conv 56 rfl (by rfl) (.tmp 55) rfl rfl (CVB.out _ (by first | exact B53 | exact B44)) ?_
                refine hK _ _ ?_
                clear hK K
                refine take_at (i := 24) (some 57) (v := ?vg22) rfl rfl (by kernel_rfl) (by kernel_rfl) (by kernel_rfl) (fun _ _ _ h => h) (Or.inl ⟨by rfl, ?hg22⟩) ?rg22
                case hg22 => (intro w0; go_simp; try with_reducible rfl)
                simp only [Act.put, List.setIfInBounds_toArray, List.set_cons_zero, List.set_cons_succ]
                refine take_at (i := 25) (some 58) (v := ?vg23) rfl rfl (by kernel_rfl) (by kernel_rfl) (by kernel_rfl) (fun _ _ _ h => h) (Or.inl ⟨by rfl, ?hg23⟩) ?rg23
                case hg23 => (intro w0; go_simp; try with_reducible rfl)
                simp only [Act.put, List.setIfInBounds_toArray, List.set_cons_zero, List.set_cons_succ]
                refine wpAny_done (by kernel_rfl) ?_ _
                go_wp2
                go_meet
                case rel => exact ⟨rfl, Lib.hid B53⟩
            · refine step_conv 56 rfl (by rfl) (.tmp 55) rfl rfl (CVB.out _ (by first | exact B53 | exact B44)) ?_
              refine hK _ _ ?_
              clear hK K
              refine wpAny_ready (rs := [21]) (by kernel_rfl) (by simp) ?_
              refine AllReady.cons (o := _) rfl (fun K hK => ?_) AllReady.nil
              · refine step_conv 54 rfl (by rfl) (.tmp 53) rfl rfl (CV53.out _ (by first | exact Below.refl _ _)) ?_
                refine hK _ _ ?_
                clear hK K
                refine take_at (i := 24) (some 57) (v := ?vg26) rfl rfl (by kernel_rfl) (by kernel_rfl) (by kernel_rfl) (fun _ _ _ h => h) (Or.inl ⟨by rfl, ?hg26⟩) ?rg26
                case hg26 => (intro w0; go_simp; try with_reducible rfl)
                simp only [Act.put, List.setIfInBounds_toArray, List.set_cons_zero, List.set_cons_succ]
                refine take_at (i := 25) (some 58) (v := ?vg27) rfl rfl (by kernel_rfl) (by kernel_rfl) (by kernel_rfl) (fun _ _ _ h => h) (Or.inl ⟨by rfl, ?hg27⟩) ?rg27
                case hg27 => (intro w0; go_simp; try with_reducible rfl)
                simp only [Act.put, List.setIfInBounds_toArray, List.set_cons_zero, List.set_cons_succ]
                refine wpAny_done (by kernel_rfl) ?_ _
                go_wp2
                go_meet
                case rel => exact ⟨rfl, Lib.hid B53⟩
          · refine step_conv 56 rfl (by rfl) (.tmp 55) rfl rfl (CVB.out _ (by first | exact B53 | exact B44)) ?_
            refine hK _ _ ?_
            clear hK K
            refine wpAny_ready (rs := [20]) (by kernel_rfl) (by simp) ?_
            refine AllReady.cons (o := _) rfl (fun K hK => ?_) AllReady.nil
            · go_simp
              refine (crash_any F g (framesI recs) _ _ N ((N : Int) + 7) w44 (LX.out.below B44) HN.out (by omega) (by omega) (by omega)).mono ?_
              rw [LK3.out, HTN.out]
              rintro e w53 ⟨A53, c53, rfl, f53a, f53b, own53, hb53⟩
              have B53 : Below X.heap.size X w53 := b_call B44 hb53
              have CV53 := Lib.hid (cvAt c53 (rd_own own53))
              clear own53 hb53 f53a f53b
              refine hK _ _ ?_
              clear hK K
              refine wpAny_ready (rs := [21]) (by kernel_rfl) (by simp) ?_
              refine AllReady.cons (o := _) rfl (fun K hK => ?_) AllReady.nil
              · refine step_conv 54 rfl (by rfl) (.tmp 53) rfl rfl (CV53.out _ (by first | exact Below.refl _ _)) ?_
                refine hK _ _ ?_
                clear hK K
                refine take_at (i := 24) (some 57) (v := ?vg30) rfl rfl (by kernel_rfl) (by kernel_rfl) (by kernel_rfl) (fun _ _ _ h => h) (Or.inl ⟨by rfl, ?hg30⟩) ?rg30
                case hg30 => (intro w0; go_simp; try with_reducible rfl)
                simp only [Act.put, List.setIfInBounds_toArray, List.set_cons_zero, List.set_cons_succ]
                refine take_at (i := 25) (some 58) (v := ?vg31) rfl rfl (by kernel_rfl) (by kernel_rfl) (by kernel_rfl) (fun _ _ _ h => h) (Or.inl ⟨by rfl, ?hg31⟩) ?rg31
                case hg31 => (intro w0; go_simp; try with_reducible rfl)
                simp only [Act.put, List.setIfInBounds_toArray, List.set_cons_zero, List.set_cons_succ]
                refine wpAny_done (by kernel_rfl) ?_ _
                go_wp2
                go_meet
                case rel => exact ⟨rfl, Lib.hid B53⟩
      · refine step_conv 40 rfl (by rfl) (.tmp 39) rfl rfl (CVK.out _ (by first | exact B35 | exact B0)) ?_
        refine hK _ _ ?_
        clear hK K
        refine wpAny_ready (rs := [3]) (by kernel_rfl) (by simp) ?_
        refine AllReady.cons (o := _) rfl (fun K hK => ?_) AllReady.nil
        · refine step_conv 36 rfl (by rfl) (.tmp 35) rfl rfl (CV35.out _ (by first | exact Below.refl _ _)) ?_
          refine hK _ _ ?_
          clear hK K
          refine take_at (i := 8) (some 41) (v := ?vg34) rfl rfl (by kernel_rfl) (by kernel_rfl) (by kernel_rfl) (fun _ _ _ h => h) (Or.inl ⟨by rfl, ?hg34⟩) ?rg34
          case hg34 => (intro w0; go_simp; try with_reducible rfl)
          simp only [Act.put, List.setIfInBounds_toArray, List.set_cons_zero, List.set_cons_succ]
          refine take_at (i := 9) (some 42) (v := ?vg35) rfl rfl (by kernel_rfl) (by kernel_rfl) (by kernel_rfl) (fun _ _ _ h => h) (Or.inl ⟨by rfl, ?hg35⟩) ?rg35
          case hg35 => (intro w0; go_simp; try with_reducible rfl)
          simp only [Act.put, List.setIfInBounds_toArray, List.set_cons_zero, List.set_cons_succ]
          refine take_at (i := 10) (some 43) (v := ?vg36) rfl rfl (by kernel_rfl) (by kernel_rfl) (by kernel_rfl) (fun _ _ _ h => h) (Or.inl ⟨by rfl, ?hg36⟩) ?rg36
          case hg36 => (intro w0; go_simp; try with_reducible rfl)
          simp only [Act.put, List.setIfInBounds_toArray, List.set_cons_zero, List.set_cons_succ]
          refine wpAny_ready (rs := [11]) (by kernel_rfl) (by simp) ?_
          refine AllReady.cons (o := _) rfl (fun K hK => ?_) AllReady.nil
          go_simp
          refine (crash_any F g (framesI recs) _ _ N (-1) w35 (LX.out.below B35) HN.out (by omega) (by omega) (by omega)).mono ?_
          rw [LK2.out]
          rintro e w44 ⟨A44, c44, rfl, f44a, f44b, own44, hb44⟩
          have B44 : Below X.heap.size X w44 := b_call B35 hb44
          have CV44 := Lib.hid (cvAt c44 (rd_own own44))
          clear own44 hb44 f44a f44b
          refine hK _ _ ?_
          clear hK K
          refine take_at (i := 12) (some 45) (v := ?vg38) rfl rfl (by kernel_rfl) (by kernel_rfl) (by kernel_rfl) (fun _ _ _ h => h) (Or.inl ⟨by rfl, ?hg38⟩) ?rg38
          case hg38 => (intro w0; go_simp; try with_reducible rfl)
          simp only [Act.put, List.setIfInBounds_toArray, List.set_cons_zero, List.set_cons_succ]
          refine take_at (i := 13) (some 46) (v := ?vg39) rfl rfl (by kernel_rfl) (by kernel_rfl) (by kernel_rfl) (fun _ _ _ h => h) (Or.inl ⟨by rfl, ?hg39⟩) ?rg39
          case hg39 => (intro w0; go_simp; try with_reducible rfl)
          simp only [Act.put, List.setIfInBounds_toArray, List.set_cons_zero, List.set_cons_succ]
          refine take_at (i := 14) (some 47) (v := ?vg40) rfl rfl (by kernel_rfl) (by kernel_rfl) (by kernel_rfl) (fun _ _ _ h => h) (Or.inl ⟨by rfl, ?hg40⟩) ?rg40
          case hg40 => (intro w0; go_simp; try with_reducible rfl)
          simp only [Act.put, List.setIfInBounds_toArray, List.set_cons_zero, List.set_cons_succ]
          refine take_at (i := 15) (some 48) (v := ?vg41) rfl rfl (by kernel_rfl) (by kernel_rfl) (by kernel_rfl) (fun _ _ _ h => h) (Or.inl ⟨by rfl, ?hg41⟩) ?rg41
          case hg41 => (intro w0; go_simp; try with_reducible rfl)
          simp only [Act.put, List.setIfInBounds_toArray, List.set_cons_zero, List.set_cons_succ]
          refine take_at (i := 16) (some 49) (v := ?vg42) rfl rfl (by kernel_rfl) (by kernel_rfl) (by kernel_rfl) (fun _ _ _ h => h) (Or.inl ⟨by rfl, ?hg42⟩) ?rg42
          case hg42 => (intro w0; go_simp; try with_reducible rfl)
          simp only [Act.put, List.setIfInBounds_toArray, List.set_cons_zero, List.set_cons_succ]
          refine take_at (i := 17) (some 50) (v := ?vg43) rfl rfl (by kernel_rfl) (by kernel_rfl) (by kernel_rfl) (fun _ _ _ h => h) (Or.inl ⟨by rfl, ?hg43⟩) ?rg43
          case hg43 => (intro w0; go_simp; try with_reducible rfl)
          simp only [Act.put, List.setIfInBounds_toArray, List.set_cons_zero, List.set_cons_succ]
          refine take_at (i := 18) (some 51) (v := ?vg44) rfl rfl (by kernel_rfl) (by kernel_rfl) (by kernel_rfl) (fun _ _ _ h => h) (Or.inl ⟨by rfl, ?hg44⟩) ?rg44
          case hg44 => (intro w0; go_simp; try with_reducible rfl)
          simp only [Act.put, List.setIfInBounds_toArray, List.set_cons_zero, List.set_cons_succ]
          refine take_at (i := 19) (some 52) (v := ?vg45) rfl rfl (by kernel_rfl) (by kernel_rfl) (by kernel_rfl) (fun _ _ _ h => h) (Or.inl ⟨by rfl, ?hg45⟩) ?rg45
          case hg45 => (intro w0; go_simp; try with_reducible rfl)
          simp only [Act.put, List.setIfInBounds_toArray, List.set_cons_zero, List.set_cons_succ]
          refine take_at (i := 22) (some 55) (v := ?vg46) rfl rfl (by kernel_rfl) (by kernel_rfl) (by kernel_rfl) (fun _ _ _ h => h) (Or.inl ⟨by rfl, ?hg46⟩) ?rg46
          case hg46 => (intro w0; go_simp; try with_reducible rfl)
          simp only [Act.put, List.setIfInBounds_toArray, List.set_cons_zero, List.set_cons_succ]
          clear hw7
          refine wpAny_ready (rs := [20, 23]) (by kernel_rfl) (by simp) ?_
          refine AllReady.cons (o := _) rfl (fun K hK => ?_) (AllReady.cons (o := _) rfl (fun K hK => ?_) AllReady.nil)
          · go_simp
            refine (crash_any F g (framesI recs) _ _ N ((N : Int) + 7) w44 (LX.out.below B44) HN.out (by omega) (by omega) (by omega)).mono ?_
            rw [LK3.out, HTN.out]
            rintro e w53 ⟨A53, c53, rfl, f53a, f53b, own53, hb53⟩
            have B53 : Below X.heap.size X w53 := b_call B44 hb53
            have CV53 := Lib.hid (cvAt c53 (rd_own own53))
            clear own53 hb53 f53a f53b
            refine hK _ _ ?_
            clear hK K
            refine wpAny_ready (rs := [21, 23]) (by kernel_rfl) (by simp) ?_
            refine AllReady.cons (o := _) rfl (fun K hK => ?_) (AllReady.cons (o := _) rfl (fun K hK => ?_) AllReady.nil)
            · refine step_conv 54 rfl (by rfl) (.tmp 53) rfl rfl (CV53.out _ (by first | exact Below.refl _ _)) ?_
              refine hK _ _ ?_
              clear hK K
              refine wpAny_ready (rs := [23]) (by kernel_rfl) (by simp) ?_
              refine AllReady.cons (o := _) rfl (fun K hK => ?_) AllReady.nil
              · refine step_conv 56 rfl (by rfl) (.tmp 55) rfl rfl (CVB.out _ (by first | exact B53 | exact B44)) ?_
                refine hK _ _ ?_
                clear hK K
                refine take_at (i := 24) (some 57) (v := ?vg48) rfl rfl (by kernel_rfl) (by kernel_rfl) (by kernel_rfl) (fun _ _ _ h => h) (Or.inl ⟨by rfl, ?hg48⟩) ?rg48
                case hg48 => (intro w0; go_simp; try with_reducible rfl)
                simp only [Act.put, List.setIfInBounds_toArray, List.set_cons_zero, List.set_cons_succ]
                refine take_at (i := 25) (some 58) (v := ?vg49) rfl rfl (by kernel_rfl) (by kernel_rfl) (by kernel_rfl) (fun _ _ _ h => h) (Or.inl ⟨by rfl, ?hg49⟩) ?rg49
                case hg49 => (intro w0; go_simp; try with_reducible rfl)
                simp only [Act.put, List.setIfInBounds_toArray, List.set_cons_zero, List.set_cons_succ]
                refine wpAny_done (by kernel_rfl) ?_ _
                go_wp2
                go_meet
                case rel => exact ⟨rfl, Lib.hid B53⟩
            · refine step_conv 56 rfl (by rfl) (.tmp 55) rfl rfl (CVB.out _ (by first | exact B53 | exact B44)) ?_
              refine hK _ _ ?_
              clear hK K
              refine wpAny_ready (rs := [21]) (by kernel_rfl) (by simp) ?_
              refine AllReady.cons (o := _) rfl (fun K hK => ?_) AllReady.nil
              · refine step_conv 54 rfl (by rfl) (.tmp 53) rfl rfl (CV53.out _ (by first | exact Below.refl _ _)) ?_
                refine hK _ _ ?_
                clear hK K
                refine take_at (i := 24) (some 57) (v := ?vg52) rfl rfl (by kernel_rfl) (by kernel_rfl) (by kernel_rfl) (fun _ _ _ h => h) (Or.inl ⟨by rfl, ?hg52⟩) ?rg52
                case hg52 => (intro w0; go_simp; try with_reducible rfl)
                simp only [Act.put, List.setIfInBounds_toArray, List.set_cons_zero, List.set_cons_succ]
                refine take_at (i := 25) (some 58) (v := ?vg53) rfl rfl (by kernel_rfl) (by kernel_rfl) (by kernel_rfl) (fun _ _ _ h => h) (Or.inl ⟨by rfl, ?hg53⟩) ?rg53
                case hg53 => (intro w0; go_simp; try with_reducible rfl)
                simp only [Act.put, List.setIfInBounds_toArray, List.set_cons_zero, List.set_cons_succ]
                refine wpAny_done (by kernel_rfl) ?_ _
                go_wp2
                go_meet
                case rel => exact ⟨rfl, Lib.hid B53⟩
          · refine step_conv 56 rfl (by rfl) (.tmp 55) rfl rfl (CVB.out _ (by first | exact B53 | exact B44)) ?_
            refine hK _ _ ?_
            clear hK K
            refine wpAny_ready (rs := [20]) (by kernel_rfl) (by simp) ?_
            refine AllReady.cons (o := _) rfl (fun K hK => ?_) AllReady.nil
            · go_simp
              refine (crash_any F g (framesI recs) _ _ N ((N : Int) + 7) w44 (LX.out.below B44) HN.out (by omega) (by omega) (by omega)).mono ?_
              rw [LK3.out, HTN.out]
              rintro e w53 ⟨A53, c53, rfl, f53a, f53b, own53, hb53⟩
              have B53 : Below X.heap.size X w53 := b_call B44 hb53
              have CV53 := Lib.hid (cvAt c53 (rd_own own53))
              clear own53 hb53 f53a f53b
              refine hK _ _ ?_
              clear hK K
              refine wpAny_ready (rs := [21]) (by kernel_rfl) (by simp) ?_
              refine AllReady.cons (o := _) rfl (fun K hK => ?_) AllReady.nil
              · refine step_conv 54 rfl (by rfl) (.tmp 53) rfl rfl (CV53.out _ (by first | exact Below.refl _ _)) ?_
                refine hK _ _ ?_
                clear hK K
                refine take_at (i := 24) (some 57) (v := ?vg56) rfl rfl (by kernel_rfl) (by kernel_rfl) (by kernel_rfl) (fun _ _ _ h => h) (Or.inl ⟨by rfl, ?hg56⟩) ?rg56
                case hg56 => (intro w0; go_simp; try with_reducible rfl)
                simp only [Act.put, List.setIfInBounds_toArray, List.set_cons_zero, List.set_cons_succ]
                refine take_at (i := 25) (some 58) (v := ?vg57) rfl rfl (by kernel_rfl) (by kernel_rfl) (by kernel_rfl) (fun _ _ _ h => h) (Or.inl ⟨by rfl, ?hg57⟩) ?rg57
                case hg57 => (intro w0; go_simp; try with_reducible rfl)
                simp only [Act.put, List.setIfInBounds_toArray, List.set_cons_zero, List.set_cons_succ]
                refine wpAny_done (by kernel_rfl) ?_ _
                go_wp2
                go_meet
                case rel => exact ⟨rfl, Lib.hid B53⟩
    · refine step_conv 40 rfl (by rfl) (.tmp 39) rfl rfl (CVK.out _ (by first | exact B35 | exact B0)) ?_
      refine hK _ _ ?_
      clear hK K
      refine wpAny_ready (rs := [2]) (by kernel_rfl) (by simp) ?_
      refine AllReady.cons (o := _) rfl (fun K hK => ?_) AllReady.nil
      · go_simp
        refine (crash_any F g (framesI recs) _ _ N (k : Int) X.drew (LX.out.below B0) HN.out (by omega) (by omega) (by omega)).mono ?_
        rw [LK1.out]
        rintro e w35 ⟨A35, c35, rfl, f35a, f35b, own35, hb35⟩
        have B35 : Below X.heap.size X w35 := b_call B0 hb35
        have CV35 := Lib.hid (cvAt c35 (rd_own own35))
        clear own35 hb35 f35a f35b
        refine hK _ _ ?_
        clear hK K
        refine wpAny_ready (rs := [3]) (by kernel_rfl) (by simp) ?_
        refine AllReady.cons (o := _) rfl (fun K hK => ?_) AllReady.nil
        · refine step_conv 36 rfl (by rfl) (.tmp 35) rfl rfl (CV35.out _ (by first | exact Below.refl _ _)) ?_
          refine hK _ _ ?_
          clear hK K
          refine take_at (i := 8) (some 41) (v := ?vg60) rfl rfl (by kernel_rfl) (by kernel_rfl) (by kernel_rfl) (fun _ _ _ h => h) (Or.inl ⟨by rfl, ?hg60⟩) ?rg60
          case hg60 => (intro w0; go_simp; try with_reducible rfl)
          simp only [Act.put, List.setIfInBounds_toArray, List.set_cons_zero, List.set_cons_succ]
          refine take_at (i := 9) (some 42) (v := ?vg61) rfl rfl (by kernel_rfl) (by kernel_rfl) (by kernel_rfl) (fun _ _ _ h => h) (Or.inl ⟨by rfl, ?hg61⟩) ?rg61
          case hg61 => (intro w0; go_simp; try with_reducible rfl)
          simp only [Act.put, List.setIfInBounds_toArray, List.set_cons_zero, List.set_cons_succ]
          refine take_at (i := 10) (some 43) (v := ?vg62) rfl rfl (by kernel_rfl) (by kernel_rfl) (by kernel_rfl) (fun _ _ _ h => h) (Or.inl ⟨by rfl, ?hg62⟩) ?rg62
          case hg62 => (intro w0; go_simp; try with_reducible rfl)
          simp only [Act.put, List.setIfInBounds_toArray, List.set_cons_zero, List.set_cons_succ]
          refine wpAny_ready (rs := [11]) (by kernel_rfl) (by simp) ?_
          refine AllReady.cons (o := _) rfl (fun K hK => ?_) AllReady.nil
          go_simp
          refine (crash_any F g (framesI recs) _ _ N (-1) w35 (LX.out.below B35) HN.out (by omega) (by omega) (by omega)).mono ?_
          rw [LK2.out]
          rintro e w44 ⟨A44, c44, rfl, f44a, f44b, own44, hb44⟩
          have B44 : Below X.heap.size X w44 := b_call B35 hb44
          have CV44 := Lib.hid (cvAt c44 (rd_own own44))
          clear own44 hb44 f44a f44b
          refine hK _ _ ?_
          clear hK K
          refine take_at (i := 12) (some 45) (v := ?vg64) rfl rfl (by kernel_rfl) (by kernel_rfl) (by kernel_rfl) (fun _ _ _ h => h) (Or.inl ⟨by rfl, ?hg64⟩) ?rg64
          case hg64 => (intro w0; go_simp; try with_reducible rfl)
          simp only [Act.put, List.setIfInBounds_toArray, List.set_cons_zero, List.set_cons_succ]
          refine take_at (i := 13) (some 46) (v := ?vg65) rfl rfl (by kernel_rfl) (by kernel_rfl) (by kernel_rfl) (fun _ _ _ h => h) (Or.inl ⟨by rfl, ?hg65⟩) ?rg65
          case hg65 => (intro w0; go_simp; try with_reducible rfl)
          simp only [Act.put, List.setIfInBounds_toArray, List.set_cons_zero, List.set_cons_succ]
          refine take_at (i := 14) (some 47) (v := ?vg66) rfl rfl (by kernel_rfl) (by kernel_rfl) (by kernel_rfl) (fun _ _ _ h => h) (Or.inl ⟨by rfl, ?hg66⟩) ?rg66
          case hg66 => (intro w0; go_simp; try with_reducible rfl)
          simp only [Act.put, List.setIfInBounds_toArray, List.set_cons_zero, List.set_cons_succ]
          refine take_at (i := 15) (some 48) (v := ?vg67) rfl rfl (by kernel_rfl) (by kernel_rfl) (by kernel_rfl) (fun _ _ _ h => h) (Or.inl ⟨by rfl, ?hg67⟩) ?rg67
          case hg67 => (intro w0; go_simp; try with_reducible rfl)
          simp only [Act.put, List.setIfInBounds_toArray, List.set_cons_zero, List.set_cons_succ]
          refine take_at (i := 16) (some 49) (v := ?vg68) rfl rfl (by kernel_rfl) (by kernel_rfl) (by kernel_rfl) (fun _ _ _ h => h) (Or.inl ⟨by rfl, ?hg68⟩) ?rg68
          case hg68 => (intro w0; go_simp; try with_reducible rfl)
          simp only [Act.put, List.setIfInBounds_toArray, List.set_cons_zero, List.set_cons_succ]
          refine take_at (i := 17) (some 50) (v := ?vg69) rfl rfl (by kernel_rfl) (by kernel_rfl) (by kernel_rfl) (fun _ _ _ h => h) (Or.inl ⟨by rfl, ?hg69⟩) ?rg69
          case hg69 => (intro w0; go_simp; try with_reducible rfl)
          simp only [Act.put, List.setIfInBounds_toArray, List.set_cons_zero, List.set_cons_succ]
          refine take_at (i := 18) (some 51) (v := ?vg70) rfl rfl (by kernel_rfl) (by kernel_rfl) (by kernel_rfl) (fun _ _ _ h => h) (Or.inl ⟨by rfl, ?hg70⟩) ?rg70
          case hg70 => (intro w0; go_simp; try with_reducible rfl)
          simp only [Act.put, List.setIfInBounds_toArray, List.set_cons_zero, List.set_cons_succ]
          refine take_at (i := 19) (some 52) (v := ?vg71) rfl rfl (by kernel_rfl) (by kernel_rfl) (by kernel_rfl) (fun _ _ _ h => h) (Or.inl ⟨by rfl, ?hg71⟩) ?rg71
          case hg71 => (intro w0; go_simp; try with_reducible rfl)
          simp only [Act.put, List.setIfInBounds_toArray, List.set_cons_zero, List.set_cons_succ]
          refine take_at (i := 22) (some 55) (v := ?vg72) rfl rfl (by kernel_rfl) (by kernel_rfl) (by kernel_rfl) (fun _ _ _ h => h) (Or.inl ⟨by rfl, ?hg72⟩) ?rg72
          case hg72 => (intro w0; go_simp; try with_reducible rfl)
          simp only [Act.put, List.setIfInBounds_toArray, List.set_cons_zero, List.set_cons_succ]
          clear hw7
          refine wpAny_ready (rs := [20, 23]) (by kernel_rfl) (by simp) ?_
          refine AllReady.cons (o := _) rfl (fun K hK => ?_) (AllReady.cons (o := _) rfl (fun K hK => ?_) AllReady.nil)
          · go_simp
            refine (crash_any F g (framesI recs) _ _ N ((N : Int) + 7) w44 (LX.out.below B44) HN.out (by omega) (by omega) (by omega)).mono ?_
            rw [LK3.out, HTN.out]
            rintro e w53 ⟨A53, c53, rfl, f53a, f53b, own53, hb53⟩
            have B53 : Below X.heap.size X w53 := b_call B44 hb53
            have CV53 := Lib.hid (cvAt c53 (rd_own own53))
            clear own53 hb53 f53a f53b
            refine hK _ _ ?_
            clear hK K
            refine wpAny_ready (rs := [21, 23]) (by kernel_rfl) (by simp) ?_
            refine AllReady.cons (o := _) rfl (fun K hK => ?_) (AllReady.cons (o := _) rfl (fun K hK => ?_) AllReady.nil)
            · refine step_conv 54 rfl (by rfl) (.tmp 53) rfl rfl (CV53.out _ (by first | exact Below.refl _ _)) ?_
              refine hK _ _ ?_
              clear hK K
              refine wpAny_ready (rs := [23]) (by kernel_rfl) (by simp) ?_
              refine AllReady.cons (o := _) rfl (fun K hK => ?_) AllReady.nil
              · refine step_conv 56 rfl (by rfl) (.tmp 55) rfl rfl (CVB.out _ (by first | exact B53 | exact B44)) ?_
                refine hK _ _ ?_
                clear hK K
                refine take_at (i := 24) (some 57) (v := ?vg74) rfl rfl (by kernel_rfl) (by kernel_rfl) (by kernel_rfl) (fun _ _ _ h => h) (Or.inl ⟨by rfl, ?hg74⟩) ?rg74
                case hg74 => (intro w0; go_simp; try with_reducible rfl)
                simp only [Act.put, List.setIfInBounds_toArray, List.set_cons_zero, List.set_cons_succ]
                refine take_at (i := 25) (some 58) (v := ?vg75) rfl rfl (by kernel_rfl) (by kernel_rfl) (by kernel_rfl) (fun _ _ _ h => h) (Or.inl ⟨by rfl, ?hg75⟩) ?rg75
                case hg75 => (intro w0; go_simp; try with_reducible rfl)
                simp only [Act.put, List.setIfInBounds_toArray, List.set_cons_zero, List.set_cons_succ]
                refine wpAny_done (by kernel_rfl) ?_ _
                go_wp2
                go_meet
                case rel => exact ⟨rfl, Lib.hid B53⟩
            · refine step_conv 56 rfl (by rfl) (.tmp 55) rfl rfl (CVB.out _ (by first | exact B53 | exact B44)) ?_
              refine hK _ _ ?_
              clear hK K
              refine wpAny_ready (rs := [21]) (by kernel_rfl) (by simp) ?_
              refine AllReady.cons (o := _) rfl (fun K hK => ?_) AllReady.nil
              · refine step_conv 54 rfl (by rfl) (.tmp 53) rfl rfl (CV53.out _ (by first | exact Below.refl _ _)) ?_
                refine hK _ _ ?_
                clear hK K
                refine take_at (i := 24) (some 57) (v := ?vg78) rfl rfl (by kernel_rfl) (by kernel_rfl) (by kernel_rfl) (fun _ _ _ h => h) (Or.inl ⟨by rfl, ?hg78⟩) ?rg78
                case hg78 => (intro w0; go_simp; try with_reducible rfl)
                simp only [Act.put, List.setIfInBounds_toArray, List.set_cons_zero, List.set_cons_succ]
                refine take_at (i := 25) (some 58) (v := ?vg79) rfl rfl (by kernel_rfl) (by kernel_rfl) (by kernel_rfl) (fun _ _ _ h => h) (Or.inl ⟨by rfl, ?hg79⟩) ?rg79
                case hg79 => (intro w0; go_simp; try with_reducible rfl)
                simp only [Act.put, List.setIfInBounds_toArray, List.set_cons_zero, List.set_cons_succ]
                refine wpAny_done (by kernel_rfl) ?_ _
                go_wp2
                go_meet
                case rel => exact ⟨rfl, Lib.hid B53⟩
          · refine step_conv 56 rfl (by rfl) (.tmp 55) rfl rfl (CVB.out _ (by first | exact B53 | exact B44)) ?_
            refine hK _ _ ?_
            clear hK K
            refine wpAny_ready (rs := [20]) (by kernel_rfl) (by simp) ?_
            refine AllReady.cons (o := _) rfl (fun K hK => ?_) AllReady.nil
            · go_simp
              refine (crash_any F g (framesI recs) _ _ N ((N : Int) + 7) w44 (LX.out.below B44) HN.out (by omega) (by omega) (by omega)).mono ?_
              rw [LK3.out, HTN.out]
              rintro e w53 ⟨A53, c53, rfl, f53a, f53b, own53, hb53⟩
              have B53 : Below X.heap.size X w53 := b_call B44 hb53
              have CV53 := Lib.hid (cvAt c53 (rd_own own53))
              clear own53 hb53 f53a f53b
              refine hK _ _ ?_
              clear hK K
              refine wpAny_ready (rs := [21]) (by kernel_rfl) (by simp) ?_
              refine AllReady.cons (o := _) rfl (fun K hK => ?_) AllReady.nil
              · refine step_conv 54 rfl (by rfl) (.tmp 53) rfl rfl (CV53.out _ (by first | exact Below.refl _ _)) ?_
                refine hK _ _ ?_
                clear hK K
                refine take_at (i := 24) (some 57) (v := ?vg82) rfl rfl (by kernel_rfl) (by kernel_rfl) (by kernel_rfl) (fun _ _ _ h => h) (Or.inl ⟨by rfl, ?hg82⟩) ?rg82
                case hg82 => (intro w0; go_simp; try with_reducible rfl)
                simp only [Act.put, List.setIfInBounds_toArray, List.set_cons_zero, List.set_cons_succ]
                refine take_at (i := 25) (some 58) (v := ?vg83) rfl rfl (by kernel_rfl) (by kernel_rfl) (by kernel_rfl) (fun _ _ _ h => h) (Or.inl ⟨by rfl, ?hg83⟩) ?rg83
                case hg83 => (intro w0; go_simp; try with_reducible rfl)
                simp only [Act.put, List.setIfInBounds_toArray, List.set_cons_zero, List.set_cons_succ]
                refine wpAny_done (by kernel_rfl) ?_ _
                go_wp2
                go_meet
                case rel => exact ⟨rfl, Lib.hid B53⟩
  case rest =>
    obtain ⟨rfl, HBC⟩ := hcut
    have LX2 := Lib.hid (LX.out.below HBC.out)
    have B4 := Lib.hid (b_call B3.out HBC.out)
    clear LX HBC CVB CVK LK2 LK3 HTN B3 RB3
    go_wp2_with fail
    refine (crash_any F g (framesI recs) _ _ N (k : Int) _ LX2.out HN.out (by omega) (by omega) (by omega)).mono ?_
    rw [LK1.out]
    rintro e w5 ⟨A5, c5, rfl, h3, h4, own5, hb5⟩
    have B5 := Lib.hid (b_call B4.out hb5)
    have RB5 := Lib.hid (rd_own own5)
    have HBY := Lib.hid ((framesI_bytes (HRS.out.mono (show 4000 ≤ 16383 by omega))).take k)
    have HOP := Lib.hid (opens_crash recs k HRS.out)
    clear own5 hb5 LX2 B4 LK1
    go_wp2_with fail
    refine (open_any A5 k c5 ((framesI recs).take k) HBY.out _ RB5.out h3 h4 (by omega)).mono ?_
    rintro e w6 hO
    obtain ⟨gy, Fy, rfl, hlgy, hFy, hb6⟩ := hO.get HOP.out
    rw [HM.out] at hlgy
    have LY := Lib.hid hlgy
    have HFy := Lib.hid (show ∀ j, Fy j → w1.heap.size ≤ j from fun j hj => Nat.le_trans B5.out.size (hFy j hj))
    have B6 := Lib.hid (b_call B5.out hb6)
    clear hO hlgy hFy hb6 RB5 B5 HOP HBY h1 h2 h3 h4
    go_wp2
    go_loopw [13, 14, 15] (fun s13 s14 s15 wr => ∃ (i z wh : Nat), i ≤ m ∧ s15 = .int .i64 i ∧ s13 = .int .i64 z ∧ s14 = .int .i64 wh ∧ Hid ((framesI (recs.take i)).length = z) ∧ Hid (whole k recs i = wh) ∧ wh ≤ i ∧ Hid (Below w6.heap.size w6 wr)) (fun _ _ i _ => m - (intOf i).toNat)
    case atStart => exact ⟨0, 0, 0, by omega, rfl, rfl, rfl, rfl, rfl, by omega, Lib.hid (Below.refl _ _)⟩
    case round =>
      obtain ⟨i, z, wh, hi, rfl, rfl, rfl, HZ, HW, hwi, HB⟩ := hrel
      have hzb : z ≤ 1500 := by
        rw [← HZ.out]
        exact recs_len (Nat.le_trans (List.length_take_le' _ _) HRL.out) (HRS1.out.take i)
      by_cases hlt : i < m
      · obtain ⟨b, o, rfl, hb, hcell⟩ := (RV1.out.below (b_call B6.out HB.out) (Nat.le_refl _)).open1 hlt
        have hkr : i < recs.length := by rw [HM.out]; exact hlt
        have hkv : i < vs.length := by have := RW1.out.1; omega
        obtain ⟨Ax, cx, hv, gx1, gx2, rdx, hlo⟩ := (RW1.out.2 i vs[i] recs[i] (List.getElem?_eq_getElem hkv) (List.getElem?_eq_getElem hkr)).rd
        rw [hv] at hcell
        have hxm := HRS1.out recs[i] (List.getElem_mem hkr)
        have HTS := Lib.hid (framesI_take_succ recs hkr)
        obtain ⟨x, hx⟩ : ∃ x, recs[i] = x := ⟨_, rfl⟩
        have RX := Lib.hid ((rdx.below (b_call B6.out HB.out) (Nat.le_refl _)).more (b_call B6.out HB.out).size)
        rw [hx] at hcell hxm HTS RX
        obtain ⟨hxb, hxl⟩ := hxm
        have HXB := Lib.hid hxb
        have hfl := frameL_bd x
        obtain ⟨ln, hln⟩ : ∃ ln, x.length = ln := ⟨_, rfl⟩
        rw [hln] at hcell RX hxl hfl
        obtain ⟨fl, hfe⟩ : ∃ fl, frameL x = fl := ⟨_, rfl⟩
        have HFE := Lib.hid hfe
        rw [hfe] at hfl
        have HZ1 := Lib.hid (show (framesI (recs.take (i + 1))).length = z + fl from by rw [HTS.out, List.length_append, frameI_len, HZ.out, HFE.out])
        clear hv rdx hlo hkr hkv hxb hln gx1 gx2 hx hfe
        go_wp2_with fail
        refine (frame_any Ax ln cx x HXB.out _ RX.out (by omega)).mono ?_
        rw [HFE.out]
        rintro e w7 ⟨A7, c7, rfl, k1, k2, own7, hb7⟩
        have HB7 := Lib.hid (b_call HB.out hb7)
        clear own7 hb7
        by_cases hle : z + fl ≤ k
        · have hd : decide ((z : Int) + (fl : Int) ≤ (k : Int)) = true := by simp; omega
          have HW1 := Lib.hid (show whole k recs (i + 1) = wh + 1 from by rw [whole, HZ1.out, if_pos hle, HW.out])
          go_wp2
          go_roundw
          case rel => exact ⟨i + 1, z + fl, wh + 1, by omega, by go_num, by go_num, by go_num, HZ1, HW1, by omega, HB7⟩
          case measure => simp [intOf]; omega
        · have hd : decide ((z : Int) + (fl : Int) ≤ (k : Int)) = false := by simp; omega
          have HW1 := Lib.hid (show whole k recs (i + 1) = wh from by rw [whole, HZ1.out, if_neg hle, HW.out])
          go_wp2
          go_roundw
          case rel => exact ⟨i + 1, z + fl, wh, by omega, by go_num, by go_num, rfl, HZ1, HW1, by omega, HB7⟩
          case measure => simp [intOf]; omega
      · have hmi : m ≤ i := by omega
        have hmi2 : i ≤ m := hi
        have HWm := Lib.hid (show whole k recs m = wh from by rw [show m = i from by omega]; exact HW.out)
        rw [HWm.out] at LY
        have hwm : wh ≤ m := by omega
        have LY7 := Lib.hid (LY.out.below HB.out)
        have B7 := Lib.hid (b_call B6.out HB.out)
        have HWL := Lib.hid (show (recs.take wh).length = wh from by rw [List.length_take, HM.out]; omega)
        clear HZ HW hwi HB hzb LY B6
        go_upto_region 20 with (fail)
        obtain ⟨X, rfl⟩ : ∃ W : World, W = wr := ⟨_, rfl⟩
        have LYX := Lib.hid LY7.out
        have B0 : Below X.heap.size X X.drew := b_drew (Below.refl _ _)
        have RTX := Lib.hid (show Rd X w1.heap.size 1 A1 wh (vs.take wh) from by have := (RV1.out.below B7.out (Nat.le_refl _)).take hwm; rw [Nat.mul_one] at this; exact this)
        have RWX := Lib.hid (show Rows X _ (vs.take wh) (recs.take wh) from (RW1.out.below B7.out).take wh)
        have hrl' := HRL.out
        have hsl := fun (W : World) => run_slice_to slRows A1 m c1 .i64 (wh : Int) (by omega) (by omega) W
        simp only [Int.toNat_natCast] at hsl
        refine wp_region_any (by kernel_rfl) ?_
        change wpAny _ _ _ _ _ _ _ (World.drew _)
        refine take_at (i := 0) (some 91) (v := ?vg87) rfl rfl (by kernel_rfl) (by kernel_rfl) (by kernel_rfl) (fun _ _ _ h => h) (Or.inl ⟨by rfl, ?hg87⟩) ?rg87
        case hg87 => (intro w0; go_simp; try with_reducible rfl)
        simp only [Act.put, List.setIfInBounds_toArray, List.set_cons_zero, List.set_cons_succ]
        refine take_at (i := 2) (some 93) (v := ?vg88) rfl rfl (by kernel_rfl) (by kernel_rfl) (by kernel_rfl) (fun _ _ _ h => h) (Or.inl ⟨by rfl, ?hg88⟩) ?rg88
        case hg88 => (intro w0; go_simp; try with_reducible rfl)
        simp only [Act.put, List.setIfInBounds_toArray, List.set_cons_zero, List.set_cons_succ]
        refine take_at (i := 3) (some 94) (v := ?vg89) rfl rfl (by kernel_rfl) (by kernel_rfl) (by kernel_rfl) (fun _ _ _ h => h) (Or.inl ⟨by rfl, ?hg89⟩) ?rg89
        case hg89 => (intro w0; go_simp; try with_reducible rfl)
        simp only [Act.put, List.setIfInBounds_toArray, List.set_cons_zero, List.set_cons_succ]
        refine take_at (i := 4) (some 95) (v := ?vg90) rfl rfl (by kernel_rfl) (by kernel_rfl) (by kernel_rfl) (fun _ _ _ h => h) (Or.inl ⟨by rfl, ?hg90⟩) ?rg90
        case hg90 => (intro w0; go_simp; try with_reducible rfl)
        simp only [Act.put, List.setIfInBounds_toArray, List.set_cons_zero, List.set_cons_succ]
        clear hsl
        refine wpAny_ready (rs := [1]) (by kernel_rfl) (by simp) ?_
        refine AllReady.cons (o := _) rfl (fun K hK => ?_) AllReady.nil
        go_simp
        refine (records_any Fy gy (recs.take wh) wh X.drew (LYX.out.below B0) HWL.out (Nat.le_trans (recs_len (Nat.le_trans (List.length_take_le' _ _) hrl') (HRS1.out.take wh)) (by decide))).mono ?_
        rintro e w92 ⟨A92, c92, vs92, rfl, k92a, k92b, own92, rows92, hb92⟩
        have B92 : Below X.heap.size X w92 := b_call B0 hb92
        refine hK _ _ ?_
        clear hK K
        refine wpAny_ready (rs := [5]) (by kernel_rfl) (by simp) ?_
        refine AllReady.cons (o := _) rfl (fun K hK => ?_) AllReady.nil
        go_simp
        refine (same_any A92 A1 wh c92 wh c1 _ _ vs92 (vs.take wh) (recs.take wh) (recs.take wh) true (by simp) w92 (rd_own own92) rows92 ((RTX.out.below B92 B7.out.size).more (Nat.le_trans B7.out.size B92.size)) (RWX.out.below B92) 4000 (HRS.out.take _) (HRS.out.take _) (by omega) (by omega)).mono ?_
        rintro e w96 ⟨rfl, hb96⟩
        have B96 : Below X.heap.size X w96 := b_call B92 hb96
        clear own92 rows92 hb92 hb96 k92a k92b
        refine hK _ _ ?_
        clear hK K
        refine take_at (i := 6) (some 97) (v := ?vg94) rfl rfl (by kernel_rfl) (by kernel_rfl) (by kernel_rfl) (fun _ _ _ h => h) (Or.inl ⟨by rfl, ?hg94⟩) ?rg94
        case hg94 => (intro w0; go_simp; try with_reducible rfl)
        simp only [Act.put, List.setIfInBounds_toArray, List.set_cons_zero, List.set_cons_succ]
        refine wpAny_done (by kernel_rfl) ?_ _
        have B96' := Lib.hid B96
        have BW := Lib.hid (b_call B1.out (b_call B7.out B96))
        have LY8 := Lib.hid (LYX.out.below B96)
        have HFl := Lib.hid (fun j (hj : Fy j) => LYX.out.lt j hj)
        obtain ⟨p, hp⟩ : ∃ p, min n2 30 = p := ⟨_, rfl⟩
        have hp30 : p ≤ 30 := by omega
        have HP := Lib.hid hp
        obtain ⟨Lm, hLm⟩ : ∃ L, l2.take 30 = L := ⟨_, rfl⟩
        have HPL := Lib.hid (show Lm.length = p from by rw [← hLm, List.length_take, HL2.out, ← hp, Nat.min_comm])
        have HLB := Lib.hid (show Bytes Lm from by rw [← hLm]; exact fun x hx => HB2.out x (List.mem_of_mem_take hx))
        have HLm := Lib.hid hLm
        clear hp hLm B92 B96 B0
        go_wp2_with fail
        refine (few_any A2 n2 c2 l2 30 30 _ rfl ((R2.out.below BW.out (Nat.le_refl _)).more BW.out.size) HN2.out.1 HN2.out.2 (by omega)).mono ?_
        rw [HP.out, HLm.out]
        rintro e w16 ⟨A16, c16, rfl, k1, k2, own16, hb16⟩
        have O16 := Lib.hid own16
        have B16 := Lib.hid (b_call (b_call B7.out B96'.out) hb16)
        have LY16 := Lib.hid (LY8.out.below hb16)
        have z96 := B96'.out.size
        have z16 := hb16.size
        have RT16 := Lib.hid ((RTX.out.below (b_call B96'.out hb16) B7.out.size).more (show w1.heap.size ≤ w16.heap.size from B16.out.size))
        have hvc : ∀ u ∈ vs.take wh, u.oneCell' = true := fun u hu => RW1.out.cell u (List.mem_of_mem_take hu)
        have HVC := Lib.hid hvc
        clear own16 hb16 LY8 R2 hvc
        have hsl := fun (W : World) => run_slice_to slRows A1 m c1 .i64 (wh : Int) (by omega) (by omega) W
        simp only [Int.toNat_natCast] at hsl
        go_upto_region 24 with (first
          | (at_builtin; refine wpList_app _ rfl (.tmp 100) (.tmp 103) slRows rfl rfl (own_lit0 w16 27 1) (A := A1) (m := wh) (c := c1) rfl (rd_step RT16.out (b_alloc (Below.refl _ _) _)) HVC.out wh (Nat.zero_add _) (by unfold maxLen; omega) (by omega) (by simp) ?_; intro A17 c17 w17 h1 h2 h3 h4 _)
          | (at_builtin; refine wpList_app _ rfl (.tmp 104) (.tmp 106) slRows rfl rfl (h3.alloc _) rfl (rd_lit w17 _ _ rfl rfl) (by intro u' hu'; simp at hu'; subst hu'; rfl) (wh + 1) rfl (by unfold maxLen; omega) (by omega) (by have := h4.size; simp at *; omega) ?_; intro A18 c18 w18 g1 g2 g3 g4 _))
        clear hsl
        have hb17 := below_app (b_alloc (Below.refl w16.heap.size w16) (.cells #[] 27)) (own_lit0 w16 27 1) h4 (Nat.le_refl _) (by simp)
        have hb18 := below_app (b_alloc hb17 (.cells #[.slice A16 p c16] 27)) (h3.alloc _) g4 (Nat.le_refl _) (by have := hb17.size; simp; omega)
        rw [List.nil_append] at g3
        have O18 := Lib.hid g3
        have O16' := Lib.hid (own_below O16.out hb18)
        have LY18 := Lib.hid (LY16.out.below hb18)
        have B18 := Lib.hid (b_call B16.out hb18)
        have z18 := hb18.size
        have HW16 := Lib.hid (fun j (hj : (Value.slice A18 (wh + 1) c18).ownBlock = some j) => And.intro (own_ge g3 hj) (own_ltX g3 hj))
        have HR16 := Lib.hid (fun j (hj : (Value.slice A16 p c16).ownBlock = some j) => And.intro (own_ge O16.out hj) (own_ltX O16'.out hj))
        have HRF := Lib.hid (show RdF w18 Fy A16 p Lm from ⟨rd_own O16'.out, fun b' o' e hne hFb => by
          obtain ⟨gq, cur, e2, hgq, _⟩ := own_open O16.out (by have := List.length_pos_iff.2 hne; have := HPL.out; omega)
          rw [e] at e2
          injection e2 with e2
          injection e2 with e3 e4
          have := HFl.out _ hFb
          omega⟩)
        have HF4 := Lib.hid (recs_len (Nat.le_trans (List.length_take_le' _ _) HRL.out) (HRS1.out.take wh))
        clear g3 g4 h3 h4 hb17 hb18 LY16 B16 RT16 HVC
        go_wp2_with fail
        refine (append_ok Fy gy (recs.take wh) A16 p c16 Lm _ LY18.out HLB.out HRF.out (by omega) (Nat.le_trans HF4.out (by decide)) (by rw [HWL.out]; omega)).mono ?_
        rintro e w19 ⟨rfl, F19, hlg19, hmv⟩
        obtain ⟨hb19, hF19⟩ := hmv.belowB (B := w1.heap.size) B18.out.size HFy.out
        have LY19 := Lib.hid hlg19
        have B19 := Lib.hid (B18.out.trans hb19)
        have O19 := Lib.hid (own_same' O18.out fun j hj => hmv.2.heap (HW16.out j hj).2 (fun hFj => by have := HFl.out j hFj; have := (HW16.out j hj).1; omega))
        have O16b := Lib.hid (own_same' O16'.out fun j hj => hmv.2.heap (HR16.out j hj).2 (fun hFj => by have := HFl.out j hFj; have := (HR16.out j hj).1; omega))
        have HRSN := Lib.hid ((HRS.out.take wh).append (show Recs 4000 [Lm] from fun y hy => by
          simp at hy
          rw [hy, HPL.out]
          exact ⟨HLB.out, by omega⟩))
        have HWN := Lib.hid (show (recs.take wh ++ [Lm]).length = wh + 1 from by rw [List.length_append, HWL.out]; rfl)
        have hDL : (framesI (recs.take wh ++ [Lm])).length ≤ 1600 := by
          rw [framesI_append, framesI_one, List.length_append, frameI_len]
          have := HF4.out
          have := frameL_bd Lm
          have := HPL.out
          omega
        obtain ⟨M, hM⟩ : ∃ M, (framesI (recs.take wh ++ [Lm])).length = M := ⟨_, rfl⟩
        rw [hM] at hDL
        have HMM := Lib.hid hM
        have HW0 := Lib.hid (show w.heap.size ≤ w16.heap.size from by have := BW.out.size; omega)
        clear hlg19 hmv hF19 hb19 LY18 O18 O16' HRF B18 HW16 HR16 HFl HF4 hM
        generalize hRN : recs.take wh ++ [Lm] = RN at *
        have HRN := Lib.hid hRN
        clear hRN
        go_wp2_with fail
        refine (lbytes_any F19 gy (framesI RN) _ _ M _ LY19.out HMM.out (by omega)).mono ?_
        rintro e w20 ⟨A20, c20, rfl, f1, f2, own20, hb20⟩
        have B20 := Lib.hid (b_call B19.out hb20)
        have RB20 := Lib.hid (rd_own own20)
        have O20 := Lib.hid (own_below O19.out hb20)
        have O16c := Lib.hid (own_below O16b.out hb20)
        clear own20 hb20 LY19 B19 O19 O16b
        have HBY2 := Lib.hid (framesI_bytes (HRSN.out.mono (show 4000 ≤ 16383 by omega)))
        have HOP2 := Lib.hid (opens_all HRSN.out)
        go_wp2_with fail
        refine (open_any A20 M c20 (framesI RN) HBY2.out _ RB20.out f1 f2 (by omega)).mono ?_
        rintro e w21 hO
        obtain ⟨gz, Fz, rfl, hlgz, hFz, hb21⟩ := hO.get HOP2.out
        have LZ := Lib.hid hlgz
        have B21 := Lib.hid (b_call B20.out hb21)
        have O21 := Lib.hid (own_below O20.out hb21)
        have O16d := Lib.hid (own_below O16c.out hb21)
        clear hO hlgz hFz hb21 RB20 B20 O20 O16c
        go_wp2_with fail
        refine (records_any Fz gz RN (wh + 1) _ LZ.out HWN.out (by rw [HMM.out]; omega)).mono ?_
        rintro e w22 ⟨A22, c22, vs22, rfl, f3, f4, own22, rows22, hb22⟩
        have B22 := Lib.hid (b_call B21.out hb22)
        have O22 := Lib.hid (own_below O21.out hb22)
        have HRW := Lib.hid (show Rows w22 w.heap.size (vs.take wh ++ [.slice A16 p c16]) RN from by
          rw [← HRN.out]
          exact ((RW1.out.below B22.out).take wh).snoc (RowAt.mono ⟨A16, c16, by rw [HPL.out], by rw [HPL.out]; exact k1, k2, by rw [HPL.out]; exact own_below O16d.out hb22⟩ (by have := BW.out.size; omega))
          )
        have OR22 := Lib.hid own22
        have RW22 := Lib.hid rows22
        clear own22 rows22 hb22 LZ B21 O21 O16d
        go_wp2_with fail
        refine (same_any A22 A18 (wh + 1) c22 (wh + 1) c18 _ _ vs22 _ RN RN true (by simp) _ (rd_own OR22.out) RW22.out (rd_own O22.out) HRW.out 4000 HRSN.out HRSN.out (by omega) (by omega)).mono ?_
        rintro e w23 ⟨rfl, hb23⟩
        have B23 := Lib.hid (b_call B22.out hb23)
        clear hb23
        go_wp2_with fail
        refine (lives_any _).mono ?_
        rintro e w24 ⟨rfl, hb24⟩
        go_wp2
        go_ret
        exact ⟨rfl, b_call B1.out (b_call B23.out hb24)⟩
end Go.Proofs.Ytmoajnekegbncaa
