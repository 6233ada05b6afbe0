/-
  WHAT IS PROVED HERE: the walk of the law JournalBytes: it returns true at every input and leaves old memory as it was. Conditions: the argument's length is a machine's.
-/
import Derived.Test.YtmoajnekegbncaaJnJ
namespace Go.Proofs.Ytmoajnekegbncaa
set_option linter.unusedVariables false
open Go.ChangeShapes Go.WideShapes Go.ChangeAt Go.RowKit

/-- a conversion as one step of a region that draws its order -/
theorem step_conv {P : Program} {w : World} {o : Oper} {a : Act} {K : Act → World → Prop} {Q : Exit → Act → World → Prop} {C E : Prop} [Decidable C] (dst : Tmp) (hdst : o.dst = some dst) (hC : C) (x : Operand) {src dt : TypeId} (ho : o.op = .convert src dt x) {v u : Value} (hx : a.eval x = v) (hrun : (convert src dt v).run P w = .ok u w)
    (h : K (a.put (some dst) u) w) : if C then Oper.wp P o a w K Q else E := by
  rw [if_pos hC]
  unfold Oper.wp execOp
  simp only [ho, Sem.run_bind, Sem.run_pure, Result.andThen_ok, hx, hrun]
  show K (a.put o.dst u) w
  rw [hdst]
  exact h
/-- a string of bytes, later on -/
def CvAt (w : World) (v : Value) (L : List Int) : Prop := ∀ W, Below w.heap.size w W → (convert 27 9 v).run Try.prog W = .ok (.string (bytesOf L)) W
theorem cvAt {w : World} {n : Nat} {A : Option Addr} {L : List Int} (c : Nat) (rd : Rd w w.heap.size 1 A n (L.map (Value.int .u8))) : CvAt w (.slice A n c) L :=
  conv_later (P := Try.prog) (src := 27) (dst := 9) Try.underlying27 Try.underlying5 Try.underlying9 c rd
theorem recs_len {recs : List (List Int)} (h : recs.length ≤ 10) (hr : Recs 140 recs) : (framesI recs).length ≤ 1500 := by
  have h1 := framesI_le hr
  exact Nat.le_trans h1 (Nat.le_trans (Nat.mul_le_mul_right _ h) (by decide))
set_option maxRecDepth 100000 in
set_option maxHeartbeats 4000000 in
theorem jbytes_walk (A0 : Option Addr) (n0 c0 : Nat) (l0 : List Int) (w : World) (rd0 : Rd w w.heap.size 1 A0 n0 (l0.map (Value.int .i64))) (hI : ∀ x ∈ l0, -9223372036854775808 ≤ x ∧ x ≤ 9223372036854775807) (hn0 : n0 ≤ 9223372036854775807) :
    Calls Try.prog 3 #[.slice A0 n0 c0] w fun e w' => e = .returned (.bool true) ∧ Below w.heap.size w w' := by
  have R0 := Lib.hid rd0
  have HI := Lib.hid hI
  clear rd0 hI
  go_enter Try.func3, Try.ntmps3
  go_wp2_with fail
  refine (refrecords_any A0 n0 c0 l0 _ R0.out HI.out hn0).mono ?_
  rintro e w1 ⟨recs, hrl, hrs, A1, c1, vs, rfl, hc1, hm1, own1, rows1, hb1⟩
  obtain ⟨m, hm⟩ : ∃ m, recs.length = m := ⟨_, rfl⟩
  have HFL := Lib.hid (recs_len hrl hrs)
  rw [hm] at own1 hc1 hrl ⊢
  have HM := Lib.hid hm
  have HRS := Lib.hid hrs
  have RV1 := Lib.hid (rd_own own1)
  have RW1 := Lib.hid rows1
  have B1 := Lib.hid hb1
  clear hm hrs own1 rows1 hb1
  go_wp2_with fail
  refine (filled_any A1 m c1 _ vs recs _ RV1.out RW1.out (HRS.out.mono (by omega)) (by omega)).mono ?_
  rintro e w2 ⟨g, F, rfl, hlg, hF, hb2⟩
  have LG2 := Lib.hid hlg
  have RV2 := Lib.hid (rd_step RV1.out hb2)
  have RW2 := Lib.hid (RW1.out.below hb2)
  have B2 := Lib.hid (b_call B1.out hb2)
  clear hlg hF hb2 RV1 RW1 B1
  obtain ⟨N, hN⟩ : ∃ N, (framesI recs).length = N := ⟨_, rfl⟩
  have HN := Lib.hid hN
  have hN1 : N ≤ 1500 := by rw [← hN]; exact HFL.out
  clear hN
  go_wp2_with fail
  refine (lbytes_any F g (framesI recs) _ _ N _ LG2.out HN.out (by omega)).mono ?_
  rintro e w3 ⟨A3, c3, rfl, h1, h2, own3, hb3⟩
  have LG3 := Lib.hid (LG2.out.below hb3)
  have RV3 := Lib.hid (rd_step RV2.out hb3)
  have RW3 := Lib.hid (RW2.out.below hb3)
  have B3 := Lib.hid (b_call B2.out hb3)
  have RB3 := Lib.hid (rd_own own3)
  have HBY := Lib.hid (framesI_bytes (HRS.out.mono (show 140 ≤ 16383 by omega)))
  have HOP := Lib.hid (opens_all (HRS.out.mono (show 140 ≤ 4000 by omega)))
  unfold maxLen at h2
  clear own3 hb3 LG2 RV2 RW2 B2
  go_wp2_with fail
  refine (open_any A3 N c3 (framesI recs) HBY.out _ RB3.out h1 (by unfold maxLen; omega) (by omega)).mono ?_
  rintro e w4 hO
  obtain ⟨g4, Fy, rfl, hlg4, hFy, hb4⟩ := hO.get HOP.out
  go_wp2
  refine name_world ?_
  intro X hX
  have hX0 : Below w3.heap.size w3 X := by rw [hX]; exact hb4
  have LX := Lib.hid (LG3.out.below hX0)
  have LY := Lib.hid (show Lg X Fy g4 recs from by rw [hX]; exact hlg4)
  have RVX := Lib.hid (rd_step RV3.out hX0)
  have RWX := Lib.hid (RW3.out.below hX0)
  have RBX := Lib.hid (rd_step RB3.out hX0)
  have BX := Lib.hid (b_call B3.out hX0)
  clear hX hX0 hO hlg4 hFy hb4 LG3 RV3 RW3 RB3 B3
  have CVB := Lib.hid (cvAt c3 RBX.out)
  have HRS4 := Lib.hid (HRS.out.mono (show 140 ≤ 4000 by omega))
  have B0 : Below X.heap.size X X.drew := b_drew (Below.refl _ _)
  refine wp_region_any (by kernel_rfl) ?_
  change wpAny _ _ _ _ _ _ _ (World.drew _)
  refine take_at (i := 0) (some 27) (v := ?vg2) rfl rfl (by kernel_rfl) (by kernel_rfl) (by kernel_rfl) (fun _ _ _ h => h) (Or.inl ⟨by rfl, ?hg2⟩) ?rg2
  case hg2 => (intro w0; go_simp; try with_reducible rfl)
  simp only [Act.put, List.setIfInBounds_toArray, List.set_cons_zero, List.set_cons_succ]
  refine take_at (i := 2) (some 29) (v := ?vg3) rfl rfl (by kernel_rfl) (by kernel_rfl) (by kernel_rfl) (fun _ _ _ h => h) (Or.inl ⟨by rfl, ?hg3⟩) ?rg3
  case hg3 => (intro w0; go_simp; try with_reducible rfl)
  simp only [Act.put, List.setIfInBounds_toArray, List.set_cons_zero, List.set_cons_succ]
  refine wpAny_ready (rs := [1, 3]) (by kernel_rfl) (by simp) ?_
  refine AllReady.cons (o := _) rfl (fun K hK => ?_) (AllReady.cons (o := _) rfl (fun K hK => ?_) AllReady.nil)
  · refine step_conv 28 rfl (by rfl) (.tmp 27) rfl rfl (CVB.out _ (by first | exact B5 | exact B0)) ?_
    refine hK _ _ ?_
    clear hK K
    refine wpAny_ready (rs := [3]) (by kernel_rfl) (by simp) ?_
    refine AllReady.cons (o := _) rfl (fun K hK => ?_) AllReady.nil
    · go_simp
      refine (refframes_any A1 m c1 vs _ recs X.drew RVX.out RWX.out HRS4.out (by omega)).mono ?_
      rw [HN.out]
      rintro e w5 ⟨A5, c5, rfl, f1, f2, own5, hb5⟩
      have B5 : Below X.heap.size X w5 := b_call B0 hb5
      have CV5 := Lib.hid (cvAt c5 (rd_own own5))
      clear own5 hb5
      refine hK _ _ ?_
      clear hK K
      refine wpAny_ready (rs := [4]) (by kernel_rfl) (by simp) ?_
      refine AllReady.cons (o := _) rfl (fun K hK => ?_) AllReady.nil
      · refine step_conv 31 rfl (by rfl) (.tmp 30) rfl rfl (CV5.out _ (by first | exact Below.refl _ _)) ?_
        refine hK _ _ ?_
        clear hK K
        refine take_at (i := 5) (some 32) (v := ?vg4) rfl rfl (by kernel_rfl) (by kernel_rfl) (by kernel_rfl) (fun _ _ _ h => h) (Or.inl ⟨by rfl, ?hg4⟩) ?rg4
        case hg4 => (intro w0; go_simp; try with_reducible rfl)
        simp only [Act.put, List.setIfInBounds_toArray, List.set_cons_zero, List.set_cons_succ]
        refine take_at (i := 6) (some 33) (v := ?vg5) rfl rfl (by kernel_rfl) (by kernel_rfl) (by kernel_rfl) (fun _ _ _ h => h) (Or.inl ⟨by rfl, ?hg5⟩) ?rg5
        case hg5 => (intro w0; go_simp; try with_reducible rfl)
        simp only [Act.put, List.setIfInBounds_toArray, List.set_cons_zero, List.set_cons_succ]
        refine take_at (i := 7) (some 34) (v := ?vg6) rfl rfl (by kernel_rfl) (by kernel_rfl) (by kernel_rfl) (fun _ _ _ h => h) (Or.inl ⟨by rfl, ?hg6⟩) ?rg6
        case hg6 => (intro w0; go_simp; try with_reducible rfl)
        simp only [Act.put, List.setIfInBounds_toArray, List.set_cons_zero, List.set_cons_succ]
        refine take_at (i := 9) (some 36) (v := ?vg7) rfl rfl (by kernel_rfl) (by kernel_rfl) (by kernel_rfl) (fun _ _ _ h => h) (Or.inl ⟨by rfl, ?hg7⟩) ?rg7
        case hg7 => (intro w0; go_simp; try with_reducible rfl)
        simp only [Act.put, List.setIfInBounds_toArray, List.set_cons_zero, List.set_cons_succ]
        refine wpAny_ready (rs := [8]) (by kernel_rfl) (by simp) ?_
        refine AllReady.cons (o := _) rfl (fun K hK => ?_) AllReady.nil
        go_simp
        refine (records_any F g recs m w5 (LX.out.below B5) HM.out (by rw [HN.out]; omega)).mono ?_
        rintro e w8 ⟨A8, c8, vs8, rfl, k8a, k8b, own8, rows8, hb8⟩
        have B8 : Below X.heap.size X w8 := b_call B5 hb8
        refine hK _ _ ?_
        clear hK K
        refine wpAny_ready (rs := [10]) (by kernel_rfl) (by simp) ?_
        refine AllReady.cons (o := _) rfl (fun K hK => ?_) AllReady.nil
        go_simp
        refine (same_any A8 A1 m c8 m c1 _ _ vs8 vs recs recs true (by simp) w8 (rd_own own8) rows8 (rd_step RVX.out B8) (RWX.out.below B8) 4000 HRS4.out HRS4.out (by omega) (by omega)).mono ?_
        rintro e w10 ⟨rfl, hb10⟩
        have B10 : Below X.heap.size X w10 := b_call B8 hb10
        clear own8 rows8 hb10
        refine hK _ _ ?_
        clear hK K
        refine take_at (i := 11) (some 38) (v := ?vg10) rfl rfl (by kernel_rfl) (by kernel_rfl) (by kernel_rfl) (fun _ _ _ h => h) (Or.inl ⟨by rfl, ?hg10⟩) ?rg10
        case hg10 => (intro w0; go_simp; try with_reducible rfl)
        simp only [Act.put, List.setIfInBounds_toArray, List.set_cons_zero, List.set_cons_succ]
        refine take_at (i := 12) (some 39) (v := ?vg11) rfl rfl (by kernel_rfl) (by kernel_rfl) (by kernel_rfl) (fun _ _ _ h => h) (Or.inl ⟨by rfl, ?hg11⟩) ?rg11
        case hg11 => (intro w0; go_simp; try with_reducible rfl)
        simp only [Act.put, List.setIfInBounds_toArray, List.set_cons_zero, List.set_cons_succ]
        refine take_at (i := 13) (some 40) (v := ?vg12) rfl rfl (by kernel_rfl) (by kernel_rfl) (by kernel_rfl) (fun _ _ _ h => h) (Or.inl ⟨by rfl, ?hg12⟩) ?rg12
        case hg12 => (intro w0; go_simp; try with_reducible rfl)
        simp only [Act.put, List.setIfInBounds_toArray, List.set_cons_zero, List.set_cons_succ]
        refine take_at (i := 15) (some 42) (v := ?vg13) rfl rfl (by kernel_rfl) (by kernel_rfl) (by kernel_rfl) (fun _ _ _ h => h) (Or.inl ⟨by rfl, ?hg13⟩) ?rg13
        case hg13 => (intro w0; go_simp; try with_reducible rfl)
        simp only [Act.put, List.setIfInBounds_toArray, List.set_cons_zero, List.set_cons_succ]
        refine wpAny_ready (rs := [14]) (by kernel_rfl) (by simp) ?_
        refine AllReady.cons (o := _) rfl (fun K hK => ?_) AllReady.nil
        go_simp
        refine (records_any Fy g4 recs m w10 (LY.out.below B10) HM.out (by rw [HN.out]; omega)).mono ?_
        rintro e w14 ⟨A14, c14, vs14, rfl, k14a, k14b, own14, rows14, hb14⟩
        have B14 : Below X.heap.size X w14 := b_call B10 hb14
        refine hK _ _ ?_
        clear hK K
        refine wpAny_ready (rs := [16]) (by kernel_rfl) (by simp) ?_
        refine AllReady.cons (o := _) rfl (fun K hK => ?_) AllReady.nil
        go_simp
        refine (same_any A14 A1 m c14 m c1 _ _ vs14 vs recs recs true (by simp) w14 (rd_own own14) rows14 (rd_step RVX.out B14) (RWX.out.below B14) 4000 HRS4.out HRS4.out (by omega) (by omega)).mono ?_
        rintro e w16 ⟨rfl, hb16⟩
        have B16 : Below X.heap.size X w16 := b_call B14 hb16
        clear own14 rows14 hb16
        refine hK _ _ ?_
        clear hK K
        refine take_at (i := 17) (some 44) (v := ?vg16) rfl rfl (by kernel_rfl) (by kernel_rfl) (by kernel_rfl) (fun _ _ _ h => h) (Or.inl ⟨by rfl, ?hg16⟩) ?rg16
        case hg16 => (intro w0; go_simp; try with_reducible rfl)
        simp only [Act.put, List.setIfInBounds_toArray, List.set_cons_zero, List.set_cons_succ]
        refine take_at (i := 18) (some 45) (v := ?vg17) rfl rfl (by kernel_rfl) (by kernel_rfl) (by kernel_rfl) (fun _ _ _ h => h) (Or.inl ⟨by rfl, ?hg17⟩) ?rg17
        case hg17 => (intro w0; go_simp; try with_reducible rfl)
        simp only [Act.put, List.setIfInBounds_toArray, List.set_cons_zero, List.set_cons_succ]
        refine take_at (i := 19) (some 46) (v := ?vg18) rfl rfl (by kernel_rfl) (by kernel_rfl) (by kernel_rfl) (fun _ _ _ h => h) (Or.inl ⟨by rfl, ?hg18⟩) ?rg18
        case hg18 => (intro w0; go_simp; try with_reducible rfl)
        simp only [Act.put, List.setIfInBounds_toArray, List.set_cons_zero, List.set_cons_succ]
        refine take_at (i := 22) (some 49) (v := ?vg19) rfl rfl (by kernel_rfl) (by kernel_rfl) (by kernel_rfl) (fun _ _ _ h => h) (Or.inl ⟨by rfl, ?hg19⟩) ?rg19
        case hg19 => (intro w0; go_simp; try with_reducible rfl)
        simp only [Act.put, List.setIfInBounds_toArray, List.set_cons_zero, List.set_cons_succ]
        refine wpAny_ready (rs := [20, 23]) (by kernel_rfl) (by simp) ?_
        refine AllReady.cons (o := _) rfl (fun K hK => ?_) (AllReady.cons (o := _) rfl (fun K hK => ?_) AllReady.nil)
        · go_simp
          refine (lbytes_any Fy g4 (framesI recs) _ _ N w16 (LY.out.below B16) HN.out (by omega)).mono ?_
          rintro e w20 ⟨A20, c20, rfl, f1, f2, own20, hb20⟩
          have B20 : Below X.heap.size X w20 := b_call B16 hb20
          have CV20 := Lib.hid (cvAt c20 (rd_own own20))
          clear own20 hb20
          refine hK _ _ ?_
          clear hK K
          refine wpAny_ready (rs := [21, 23]) (by kernel_rfl) (by simp) ?_
          refine AllReady.cons (o := _) rfl (fun K hK => ?_) (AllReady.cons (o := _) rfl (fun K hK => ?_) AllReady.nil)
          · refine step_conv 48 rfl (by rfl) (.tmp 47) rfl rfl (CV20.out _ (by first | exact Below.refl _ _)) ?_
            refine hK _ _ ?_
            clear hK K
            refine wpAny_ready (rs := [23]) (by kernel_rfl) (by simp) ?_
            refine AllReady.cons (o := _) rfl (fun K hK => ?_) AllReady.nil
            · refine step_conv 50 rfl (by rfl) (.tmp 49) rfl rfl (CVB.out _ (by first | exact B20 | exact B16)) ?_
              refine hK _ _ ?_
              clear hK K
              refine take_at (i := 24) (some 51) (v := ?vg20) rfl rfl (by kernel_rfl) (by kernel_rfl) (by kernel_rfl) (fun _ _ _ h => h) (Or.inl ⟨by rfl, ?hg20⟩) ?rg20
              case hg20 => (intro w0; go_simp; try with_reducible rfl)
              simp only [Act.put, List.setIfInBounds_toArray, List.set_cons_zero, List.set_cons_succ]
              refine take_at (i := 25) (some 52) (v := ?vg21) rfl rfl (by kernel_rfl) (by kernel_rfl) (by kernel_rfl) (fun _ _ _ h => h) (Or.inl ⟨by rfl, ?hg21⟩) ?rg21
              case hg21 => (intro w0; go_simp; try with_reducible rfl)
              simp only [Act.put, List.setIfInBounds_toArray, List.set_cons_zero, List.set_cons_succ]
              refine take_at (i := 26) (some 53) (v := ?vg22) rfl rfl (by kernel_rfl) (by kernel_rfl) (by kernel_rfl) (fun _ _ _ h => h) (Or.inl ⟨by rfl, ?hg22⟩) ?rg22
              case hg22 => (intro w0; go_simp; try with_reducible rfl)
              simp only [Act.put, List.setIfInBounds_toArray, List.set_cons_zero, List.set_cons_succ]
              refine wpAny_ready (rs := [27]) (by kernel_rfl) (by simp) ?_
              refine AllReady.cons (o := _) rfl (fun K hK => ?_) AllReady.nil
              go_simp
              refine (lives_any w20).mono ?_
              rintro e w27 ⟨rfl, hb27⟩
              have B27 : Below X.heap.size X w27 := b_call B20 hb27
              refine hK _ _ ?_
              clear hK K
              refine take_at (i := 28) (some 55) (v := ?vg24) rfl rfl (by kernel_rfl) (by kernel_rfl) (by kernel_rfl) (fun _ _ _ h => h) (Or.inl ⟨by rfl, ?hg24⟩) ?rg24
              case hg24 => (intro w0; go_simp; try with_reducible rfl)
              simp only [Act.put, List.setIfInBounds_toArray, List.set_cons_zero, List.set_cons_succ]
              refine wpAny_ready (rs := [29]) (by kernel_rfl) (by simp) ?_
              refine AllReady.cons (o := _) rfl (fun K hK => ?_) AllReady.nil
              go_simp
              refine hK _ _ ?_
              clear hK K
              refine wpAny_done (by kernel_rfl) ?_ _
              go_wp2
              go_ret
              exact ⟨rfl, b_call BX.out B27⟩
          · refine step_conv 50 rfl (by rfl) (.tmp 49) rfl rfl (CVB.out _ (by first | exact B20 | exact B16)) ?_
            refine hK _ _ ?_
            clear hK K
            refine wpAny_ready (rs := [21]) (by kernel_rfl) (by simp) ?_
            refine AllReady.cons (o := _) rfl (fun K hK => ?_) AllReady.nil
            · refine step_conv 48 rfl (by rfl) (.tmp 47) rfl rfl (CV20.out _ (by first | exact Below.refl _ _)) ?_
              refine hK _ _ ?_
              clear hK K
              refine take_at (i := 24) (some 51) (v := ?vg28) rfl rfl (by kernel_rfl) (by kernel_rfl) (by kernel_rfl) (fun _ _ _ h => h) (Or.inl ⟨by rfl, ?hg28⟩) ?rg28
              case hg28 => (intro w0; go_simp; try with_reducible rfl)
              simp only [Act.put, List.setIfInBounds_toArray, List.set_cons_zero, List.set_cons_succ]
              refine take_at (i := 25) (some 52) (v := ?vg29) rfl rfl (by kernel_rfl) (by kernel_rfl) (by kernel_rfl) (fun _ _ _ h => h) (Or.inl ⟨by rfl, ?hg29⟩) ?rg29
              case hg29 => (intro w0; go_simp; try with_reducible rfl)
              simp only [Act.put, List.setIfInBounds_toArray, List.set_cons_zero, List.set_cons_succ]
              refine take_at (i := 26) (some 53) (v := ?vg30) rfl rfl (by kernel_rfl) (by kernel_rfl) (by kernel_rfl) (fun _ _ _ h => h) (Or.inl ⟨by rfl, ?hg30⟩) ?rg30
              case hg30 => (intro w0; go_simp; try with_reducible rfl)
              simp only [Act.put, List.setIfInBounds_toArray, List.set_cons_zero, List.set_cons_succ]
              refine wpAny_ready (rs := [27]) (by kernel_rfl) (by simp) ?_
              refine AllReady.cons (o := _) rfl (fun K hK => ?_) AllReady.nil
              go_simp
              refine (lives_any w20).mono ?_
              rintro e w27 ⟨rfl, hb27⟩
              have B27 : Below X.heap.size X w27 := b_call B20 hb27
              refine hK _ _ ?_
              clear hK K
              refine take_at (i := 28) (some 55) (v := ?vg32) rfl rfl (by kernel_rfl) (by kernel_rfl) (by kernel_rfl) (fun _ _ _ h => h) (Or.inl ⟨by rfl, ?hg32⟩) ?rg32
              case hg32 => (intro w0; go_simp; try with_reducible rfl)
              simp only [Act.put, List.setIfInBounds_toArray, List.set_cons_zero, List.set_cons_succ]
              refine wpAny_ready (rs := [29]) (by kernel_rfl) (by simp) ?_
              refine AllReady.cons (o := _) rfl (fun K hK => ?_) AllReady.nil
              go_simp
              refine hK _ _ ?_
              clear hK K
              refine wpAny_done (by kernel_rfl) ?_ _
              go_wp2
              go_ret
              exact ⟨rfl, b_call BX.out B27⟩
        · refine step_conv 50 rfl (by rfl) (.tmp 49) rfl rfl (CVB.out _ (by first | exact B20 | exact B16)) ?_
          refine hK _ _ ?_
          clear hK K
          refine wpAny_ready (rs := [20]) (by kernel_rfl) (by simp) ?_
          refine AllReady.cons (o := _) rfl (fun K hK => ?_) AllReady.nil
          · go_simp
            refine (lbytes_any Fy g4 (framesI recs) _ _ N w16 (LY.out.below B16) HN.out (by omega)).mono ?_
            rintro e w20 ⟨A20, c20, rfl, f1, f2, own20, hb20⟩
            have B20 : Below X.heap.size X w20 := b_call B16 hb20
            have CV20 := Lib.hid (cvAt c20 (rd_own own20))
            clear own20 hb20
            refine hK _ _ ?_
            clear hK K
            refine wpAny_ready (rs := [21]) (by kernel_rfl) (by simp) ?_
            refine AllReady.cons (o := _) rfl (fun K hK => ?_) AllReady.nil
            · refine step_conv 48 rfl (by rfl) (.tmp 47) rfl rfl (CV20.out _ (by first | exact Below.refl _ _)) ?_
              refine hK _ _ ?_
              clear hK K
              refine take_at (i := 24) (some 51) (v := ?vg36) rfl rfl (by kernel_rfl) (by kernel_rfl) (by kernel_rfl) (fun _ _ _ h => h) (Or.inl ⟨by rfl, ?hg36⟩) ?rg36
              case hg36 => (intro w0; go_simp; try with_reducible rfl)
              simp only [Act.put, List.setIfInBounds_toArray, List.set_cons_zero, List.set_cons_succ]
              refine take_at (i := 25) (some 52) (v := ?vg37) rfl rfl (by kernel_rfl) (by kernel_rfl) (by kernel_rfl) (fun _ _ _ h => h) (Or.inl ⟨by rfl, ?hg37⟩) ?rg37
              case hg37 => (intro w0; go_simp; try with_reducible rfl)
              simp only [Act.put, List.setIfInBounds_toArray, List.set_cons_zero, List.set_cons_succ]
              refine take_at (i := 26) (some 53) (v := ?vg38) rfl rfl (by kernel_rfl) (by kernel_rfl) (by kernel_rfl) (fun _ _ _ h => h) (Or.inl ⟨by rfl, ?hg38⟩) ?rg38
              case hg38 => (intro w0; go_simp; try with_reducible rfl)
              simp only [Act.put, List.setIfInBounds_toArray, List.set_cons_zero, List.set_cons_succ]
              refine wpAny_ready (rs := [27]) (by kernel_rfl) (by simp) ?_
              refine AllReady.cons (o := _) rfl (fun K hK => ?_) AllReady.nil
              go_simp
              refine (lives_any w20).mono ?_
              rintro e w27 ⟨rfl, hb27⟩
              have B27 : Below X.heap.size X w27 := b_call B20 hb27
              refine hK _ _ ?_
              clear hK K
              refine take_at (i := 28) (some 55) (v := ?vg40) rfl rfl (by kernel_rfl) (by kernel_rfl) (by kernel_rfl) (fun _ _ _ h => h) (Or.inl ⟨by rfl, ?hg40⟩) ?rg40
              case hg40 => (intro w0; go_simp; try with_reducible rfl)
              simp only [Act.put, List.setIfInBounds_toArray, List.set_cons_zero, List.set_cons_succ]
              refine wpAny_ready (rs := [29]) (by kernel_rfl) (by simp) ?_
              refine AllReady.cons (o := _) rfl (fun K hK => ?_) AllReady.nil
              go_simp
              refine hK _ _ ?_
              clear hK K
              refine wpAny_done (by kernel_rfl) ?_ _
              go_wp2
              go_ret
              exact ⟨rfl, b_call BX.out B27⟩
  · go_simp
    refine (refframes_any A1 m c1 vs _ recs X.drew RVX.out RWX.out HRS4.out (by omega)).mono ?_
    rw [HN.out]
    rintro e w5 ⟨A5, c5, rfl, f1, f2, own5, hb5⟩
    have B5 : Below X.heap.size X w5 := b_call B0 hb5
    have CV5 := Lib.hid (cvAt c5 (rd_own own5))
    clear own5 hb5
    refine hK _ _ ?_
    clear hK K
    refine wpAny_ready (rs := [1, 4]) (by kernel_rfl) (by simp) ?_
    refine AllReady.cons (o := _) rfl (fun K hK => ?_) (AllReady.cons (o := _) rfl (fun K hK => ?_) AllReady.nil)
    · refine step_conv 28 rfl (by rfl) (.tmp 27) rfl rfl (CVB.out _ (by first | exact B5 | exact B0)) ?_
      refine hK _ _ ?_
      clear hK K
      refine wpAny_ready (rs := [4]) (by kernel_rfl) (by simp) ?_
      refine AllReady.cons (o := _) rfl (fun K hK => ?_) AllReady.nil
      · refine step_conv 31 rfl (by rfl) (.tmp 30) rfl rfl (CV5.out _ (by first | exact Below.refl _ _)) ?_
        refine hK _ _ ?_
        clear hK K
        refine take_at (i := 5) (some 32) (v := ?vg44) rfl rfl (by kernel_rfl) (by kernel_rfl) (by kernel_rfl) (fun _ _ _ h => h) (Or.inl ⟨by rfl, ?hg44⟩) ?rg44
        case hg44 => (intro w0; go_simp; try with_reducible rfl)
        simp only [Act.put, List.setIfInBounds_toArray, List.set_cons_zero, List.set_cons_succ]
        refine take_at (i := 6) (some 33) (v := ?vg45) rfl rfl (by kernel_rfl) (by kernel_rfl) (by kernel_rfl) (fun _ _ _ h => h) (Or.inl ⟨by rfl, ?hg45⟩) ?rg45
        case hg45 => (intro w0; go_simp; try with_reducible rfl)
        simp only [Act.put, List.setIfInBounds_toArray, List.set_cons_zero, List.set_cons_succ]
        refine take_at (i := 7) (some 34) (v := ?vg46) rfl rfl (by kernel_rfl) (by kernel_rfl) (by kernel_rfl) (fun _ _ _ h => h) (Or.inl ⟨by rfl, ?hg46⟩) ?rg46
        case hg46 => (intro w0; go_simp; try with_reducible rfl)
        simp only [Act.put, List.setIfInBounds_toArray, List.set_cons_zero, List.set_cons_succ]
        refine take_at (i := 9) (some 36) (v := ?vg47) rfl rfl (by kernel_rfl) (by kernel_rfl) (by kernel_rfl) (fun _ _ _ h => h) (Or.inl ⟨by rfl, ?hg47⟩) ?rg47
        case hg47 => (intro w0; go_simp; try with_reducible rfl)
        simp only [Act.put, List.setIfInBounds_toArray, List.set_cons_zero, List.set_cons_succ]
        refine wpAny_ready (rs := [8]) (by kernel_rfl) (by simp) ?_
        refine AllReady.cons (o := _) rfl (fun K hK => ?_) AllReady.nil
        go_simp
        refine (records_any F g recs m w5 (LX.out.below B5) HM.out (by rw [HN.out]; omega)).mono ?_
        rintro e w8 ⟨A8, c8, vs8, rfl, k8a, k8b, own8, rows8, hb8⟩
        have B8 : Below X.heap.size X w8 := b_call B5 hb8
        refine hK _ _ ?_
        clear hK K
        refine wpAny_ready (rs := [10]) (by kernel_rfl) (by simp) ?_
        refine AllReady.cons (o := _) rfl (fun K hK => ?_) AllReady.nil
        go_simp
        refine (same_any A8 A1 m c8 m c1 _ _ vs8 vs recs recs true (by simp) w8 (rd_own own8) rows8 (rd_step RVX.out B8) (RWX.out.below B8) 4000 HRS4.out HRS4.out (by omega) (by omega)).mono ?_
        rintro e w10 ⟨rfl, hb10⟩
        have B10 : Below X.heap.size X w10 := b_call B8 hb10
        clear own8 rows8 hb10
        refine hK _ _ ?_
        clear hK K
        refine take_at (i := 11) (some 38) (v := ?vg50) rfl rfl (by kernel_rfl) (by kernel_rfl) (by kernel_rfl) (fun _ _ _ h => h) (Or.inl ⟨by rfl, ?hg50⟩) ?rg50
        case hg50 => (intro w0; go_simp; try with_reducible rfl)
        simp only [Act.put, List.setIfInBounds_toArray, List.set_cons_zero, List.set_cons_succ]
        refine take_at (i := 12) (some 39) (v := ?vg51) rfl rfl (by kernel_rfl) (by kernel_rfl) (by kernel_rfl) (fun _ _ _ h => h) (Or.inl ⟨by rfl, ?hg51⟩) ?rg51
        case hg51 => (intro w0; go_simp; try with_reducible rfl)
        simp only [Act.put, List.setIfInBounds_toArray, List.set_cons_zero, List.set_cons_succ]
        refine take_at (i := 13) (some 40) (v := ?vg52) rfl rfl (by kernel_rfl) (by kernel_rfl) (by kernel_rfl) (fun _ _ _ h => h) (Or.inl ⟨by rfl, ?hg52⟩) ?rg52
        case hg52 => (intro w0; go_simp; try with_reducible rfl)
        simp only [Act.put, List.setIfInBounds_toArray, List.set_cons_zero, List.set_cons_succ]
        refine take_at (i := 15) (some 42) (v := ?vg53) rfl rfl (by kernel_rfl) (by kernel_rfl) (by kernel_rfl) (fun _ _ _ h => h) (Or.inl ⟨by rfl, ?hg53⟩) ?rg53
        case hg53 => (intro w0; go_simp; try with_reducible rfl)
        simp only [Act.put, List.setIfInBounds_toArray, List.set_cons_zero, List.set_cons_succ]
        refine wpAny_ready (rs := [14]) (by kernel_rfl) (by simp) ?_
        refine AllReady.cons (o := _) rfl (fun K hK => ?_) AllReady.nil
        go_simp
        refine (records_any Fy g4 recs m w10 (LY.out.below B10) HM.out (by rw [HN.out]; omega)).mono ?_
        rintro e w14 ⟨A14, c14, vs14, rfl, k14a, k14b, own14, rows14, hb14⟩
        have B14 : Below X.heap.size X w14 := b_call B10 hb14
        refine hK _ _ ?_
        clear hK K
        refine wpAny_ready (rs := [16]) (by kernel_rfl) (by simp) ?_
        refine AllReady.cons (o := _) rfl (fun K hK => ?_) AllReady.nil
        go_simp
        refine (same_any A14 A1 m c14 m c1 _ _ vs14 vs recs recs true (by simp) w14 (rd_own own14) rows14 (rd_step RVX.out B14) (RWX.out.below B14) 4000 HRS4.out HRS4.out (by omega) (by omega)).mono ?_
        rintro e w16 ⟨rfl, hb16⟩
        have B16 : Below X.heap.size X w16 := b_call B14 hb16
        clear own14 rows14 hb16
        refine hK _ _ ?_
        clear hK K
        refine take_at (i := 17) (some 44) (v := ?vg56) rfl rfl (by kernel_rfl) (by kernel_rfl) (by kernel_rfl) (fun _ _ _ h => h) (Or.inl ⟨by rfl, ?hg56⟩) ?rg56
        case hg56 => (intro w0; go_simp; try with_reducible rfl)
        simp only [Act.put, List.setIfInBounds_toArray, List.set_cons_zero, List.set_cons_succ]
        refine take_at (i := 18) (some 45) (v := ?vg57) rfl rfl (by kernel_rfl) (by kernel_rfl) (by kernel_rfl) (fun _ _ _ h => h) (Or.inl ⟨by rfl, ?hg57⟩) ?rg57
        case hg57 => (intro w0; go_simp; try with_reducible rfl)
        simp only [Act.put, List.setIfInBounds_toArray, List.set_cons_zero, List.set_cons_succ]
        refine take_at (i := 19) (some 46) (v := ?vg58) rfl rfl (by kernel_rfl) (by kernel_rfl) (by kernel_rfl) (fun _ _ _ h => h) (Or.inl ⟨by rfl, ?hg58⟩) ?rg58
        case hg58 => (intro w0; go_simp; try with_reducible rfl)
        simp only [Act.put, List.setIfInBounds_toArray, List.set_cons_zero, List.set_cons_succ]
        refine take_at (i := 22) (some 49) (v := ?vg59) rfl rfl (by kernel_rfl) (by kernel_rfl) (by kernel_rfl) (fun _ _ _ h => h) (Or.inl ⟨by rfl, ?hg59⟩) ?rg59
        case hg59 => (intro w0; go_simp; try with_reducible rfl)
        simp only [Act.put, List.setIfInBounds_toArray, List.set_cons_zero, List.set_cons_succ]
        refine wpAny_ready (rs := [20, 23]) (by kernel_rfl) (by simp) ?_
        refine AllReady.cons (o := _) rfl (fun K hK => ?_) (AllReady.cons (o := _) rfl (fun K hK => ?_) AllReady.nil)
        · go_simp
          refine (lbytes_any Fy g4 (framesI recs) _ _ N w16 (LY.out.below B16) HN.out (by omega)).mono ?_
          rintro e w20 ⟨A20, c20, rfl, f1, f2, own20, hb20⟩
          have B20 : Below X.heap.size X w20 := b_call B16 hb20
          have CV20 := Lib.hid (cvAt c20 (rd_own own20))
          clear own20 hb20
          refine hK _ _ ?_
          clear hK K
          refine wpAny_ready (rs := [21, 23]) (by kernel_rfl) (by simp) ?_
          refine AllReady.cons (o := _) rfl (fun K hK => ?_) (AllReady.cons (o := _) rfl (fun K hK => ?_) AllReady.nil)
          · refine step_conv 48 rfl (by rfl) (.tmp 47) rfl rfl (CV20.out _ (by first | exact Below.refl _ _)) ?_
            refine hK _ _ ?_
            clear hK K
            refine wpAny_ready (rs := [23]) (by kernel_rfl) (by simp) ?_
            refine AllReady.cons (o := _) rfl (fun K hK => ?_) AllReady.nil
            · refine step_conv 50 rfl (by rfl) (.tmp 49) rfl rfl (CVB.out _ (by first | exact B20 | exact B16)) ?_
              refine hK _ _ ?_
              clear hK K
              refine take_at (i := 24) (some 51) (v := ?vg60) rfl rfl (by kernel_rfl) (by kernel_rfl) (by kernel_rfl) (fun _ _ _ h => h) (Or.inl ⟨by rfl, ?hg60⟩) ?rg60
              case hg60 => (intro w0; go_simp; try with_reducible rfl)
              simp only [Act.put, List.setIfInBounds_toArray, List.set_cons_zero, List.set_cons_succ]
              refine take_at (i := 25) (some 52) (v := ?vg61) rfl rfl (by kernel_rfl) (by kernel_rfl) (by kernel_rfl) (fun _ _ _ h => h) (Or.inl ⟨by rfl, ?hg61⟩) ?rg61
              case hg61 => (intro w0; go_simp; try with_reducible rfl)
              simp only [Act.put, List.setIfInBounds_toArray, List.set_cons_zero, List.set_cons_succ]
              refine take_at (i := 26) (some 53) (v := ?vg62) rfl rfl (by kernel_rfl) (by kernel_rfl) (by kernel_rfl) (fun _ _ _ h => h) (Or.inl ⟨by rfl, ?hg62⟩) ?rg62
              case hg62 => (intro w0; go_simp; try with_reducible rfl)
              simp only [Act.put, List.setIfInBounds_toArray, List.set_cons_zero, List.set_cons_succ]
              refine wpAny_ready (rs := [27]) (by kernel_rfl) (by simp) ?_
              refine AllReady.cons (o := _) rfl (fun K hK => ?_) AllReady.nil
              go_simp
              refine (lives_any w20).mono ?_
              rintro e w27 ⟨rfl, hb27⟩
              have B27 : Below X.heap.size X w27 := b_call B20 hb27
              refine hK _ _ ?_
              clear hK K
              refine take_at (i := 28) (some 55) (v := ?vg64) rfl rfl (by kernel_rfl) (by kernel_rfl) (by kernel_rfl) (fun _ _ _ h => h) (Or.inl ⟨by rfl, ?hg64⟩) ?rg64
              case hg64 => (intro w0; go_simp; try with_reducible rfl)
              simp only [Act.put, List.setIfInBounds_toArray, List.set_cons_zero, List.set_cons_succ]
              refine wpAny_ready (rs := [29]) (by kernel_rfl) (by simp) ?_
              refine AllReady.cons (o := _) rfl (fun K hK => ?_) AllReady.nil
              go_simp
              refine hK _ _ ?_
              clear hK K
              refine wpAny_done (by kernel_rfl) ?_ _
              go_wp2
              go_ret
              exact ⟨rfl, b_call BX.out B27⟩
          · refine step_conv 50 rfl (by rfl) (.tmp 49) rfl rfl (CVB.out _ (by first | exact B20 | exact B16)) ?_
            refine hK _ _ ?_
            clear hK K
            refine wpAny_ready (rs := [21]) (by kernel_rfl) (by simp) ?_
            refine AllReady.cons (o := _) rfl (fun K hK => ?_) AllReady.nil
            · refine step_conv 48 rfl (by rfl) (.tmp 47) rfl rfl (CV20.out _ (by first | exact Below.refl _ _)) ?_
              refine hK _ _ ?_
              clear hK K
              refine take_at (i := 24) (some 51) (v := ?vg68) rfl rfl (by kernel_rfl) (by kernel_rfl) (by kernel_rfl) (fun _ _ _ h => h) (Or.inl ⟨by rfl, ?hg68⟩) ?rg68
              case hg68 => (intro w0; go_simp; try with_reducible rfl)
              simp only [Act.put, List.setIfInBounds_toArray, List.set_cons_zero, List.set_cons_succ]
              refine take_at (i := 25) (some 52) (v := ?vg69) rfl rfl (by kernel_rfl) (by kernel_rfl) (by kernel_rfl) (fun _ _ _ h => h) (Or.inl ⟨by rfl, ?hg69⟩) ?rg69
              case hg69 => (intro w0; go_simp; try with_reducible rfl)
              simp only [Act.put, List.setIfInBounds_toArray, List.set_cons_zero, List.set_cons_succ]
              refine take_at (i := 26) (some 53) (v := ?vg70) rfl rfl (by kernel_rfl) (by kernel_rfl) (by kernel_rfl) (fun _ _ _ h => h) (Or.inl ⟨by rfl, ?hg70⟩) ?rg70
              case hg70 => (intro w0; go_simp; try with_reducible rfl)
              simp only [Act.put, List.setIfInBounds_toArray, List.set_cons_zero, List.set_cons_succ]
              refine wpAny_ready (rs := [27]) (by kernel_rfl) (by simp) ?_
              refine AllReady.cons (o := _) rfl (fun K hK => ?_) AllReady.nil
              go_simp
              refine (lives_any w20).mono ?_
              rintro e w27 ⟨rfl, hb27⟩
              have B27 : Below X.heap.size X w27 := b_call B20 hb27
              refine hK _ _ ?_
              clear hK K
              refine take_at (i := 28) (some 55) (v := ?vg72) rfl rfl (by kernel_rfl) (by kernel_rfl) (by kernel_rfl) (fun _ _ _ h => h) (Or.inl ⟨by rfl, ?hg72⟩) ?rg72
              case hg72 => (intro w0; go_simp; try with_reducible rfl)
              simp only [Act.put, List.setIfInBounds_toArray, List.set_cons_zero, List.set_cons_succ]
              refine wpAny_ready (rs := [29]) (by kernel_rfl) (by simp) ?_
              refine AllReady.cons (o := _) rfl (fun K hK => ?_) AllReady.nil
              go_simp
              refine hK _ _ ?_
              clear hK K
              refine wpAny_done (by kernel_rfl) ?_ _
              go_wp2
              go_ret
              exact ⟨rfl, b_call BX.out B27⟩
        · refine step_conv 50 rfl (by rfl) (.tmp 49) rfl rfl (CVB.out _ (by first | exact B20 | exact B16)) ?_
          refine hK _ _ ?_
          clear hK K
          refine wpAny_ready (rs := [20]) (by kernel_rfl) (by simp) ?_
          refine AllReady.cons (o := _) rfl (fun K hK => ?_) AllReady.nil
          · go_simp
            refine (lbytes_any Fy g4 (framesI recs) _ _ N w16 (LY.out.below B16) HN.out (by omega)).mono ?_
            rintro e w20 ⟨A20, c20, rfl, f1, f2, own20, hb20⟩
            have B20 : Below X.heap.size X w20 := b_call B16 hb20
            have CV20 := Lib.hid (cvAt c20 (rd_own own20))
            clear own20 hb20
            refine hK _ _ ?_
            clear hK K
            refine wpAny_ready (rs := [21]) (by kernel_rfl) (by simp) ?_
            refine AllReady.cons (o := _) rfl (fun K hK => ?_) AllReady.nil
            · refine step_conv 48 rfl (by rfl) (.tmp 47) rfl rfl (CV20.out _ (by first | exact Below.refl _ _)) ?_
              refine hK _ _ ?_
              clear hK K
              refine take_at (i := 24) (some 51) (v := ?vg76) rfl rfl (by kernel_rfl) (by kernel_rfl) (by kernel_rfl) (fun _ _ _ h => h) (Or.inl ⟨by rfl, ?hg76⟩) ?rg76
              case hg76 => (intro w0; go_simp; try with_reducible rfl)
              simp only [Act.put, List.setIfInBounds_toArray, List.set_cons_zero, List.set_cons_succ]
              refine take_at (i := 25) (some 52) (v := ?vg77) rfl rfl (by kernel_rfl) (by kernel_rfl) (by kernel_rfl) (fun _ _ _ h => h) (Or.inl ⟨by rfl, ?hg77⟩) ?rg77
              case hg77 => (intro w0; go_simp; try with_reducible rfl)
              simp only [Act.put, List.setIfInBounds_toArray, List.set_cons_zero, List.set_cons_succ]
              refine take_at (i := 26) (some 53) (v := ?vg78) rfl rfl (by kernel_rfl) (by kernel_rfl) (by kernel_rfl) (fun _ _ _ h => h) (Or.inl ⟨by rfl, ?hg78⟩) ?rg78
              case hg78 => (intro w0; go_simp; try with_reducible rfl)
              simp only [Act.put, List.setIfInBounds_toArray, List.set_cons_zero, List.set_cons_succ]
              refine wpAny_ready (rs := [27]) (by kernel_rfl) (by simp) ?_
              refine AllReady.cons (o := _) rfl (fun K hK => ?_) AllReady.nil
              go_simp
              refine (lives_any w20).mono ?_
              rintro e w27 ⟨rfl, hb27⟩
              have B27 : Below X.heap.size X w27 := b_call B20 hb27
              refine hK _ _ ?_
              clear hK K
              refine take_at (i := 28) (some 55) (v := ?vg80) rfl rfl (by kernel_rfl) (by kernel_rfl) (by kernel_rfl) (fun _ _ _ h => h) (Or.inl ⟨by rfl, ?hg80⟩) ?rg80
              case hg80 => (intro w0; go_simp; try with_reducible rfl)
              simp only [Act.put, List.setIfInBounds_toArray, List.set_cons_zero, List.set_cons_succ]
              refine wpAny_ready (rs := [29]) (by kernel_rfl) (by simp) ?_
              refine AllReady.cons (o := _) rfl (fun K hK => ?_) AllReady.nil
              go_simp
              refine hK _ _ ?_
              clear hK K
              refine wpAny_done (by kernel_rfl) ?_ _
              go_wp2
              go_ret
              exact ⟨rfl, b_call BX.out B27⟩
    · refine step_conv 31 rfl (by rfl) (.tmp 30) rfl rfl (CV5.out _ (by first | exact Below.refl _ _)) ?_
      refine hK _ _ ?_
      clear hK K
      refine wpAny_ready (rs := [1]) (by kernel_rfl) (by simp) ?_
      refine AllReady.cons (o := _) rfl (fun K hK => ?_) AllReady.nil
      · refine step_conv 28 rfl (by rfl) (.tmp 27) rfl rfl (CVB.out _ (by first | exact B5 | exact B0)) ?_
        refine hK _ _ ?_
        clear hK K
        refine take_at (i := 5) (some 32) (v := ?vg84) rfl rfl (by kernel_rfl) (by kernel_rfl) (by kernel_rfl) (fun _ _ _ h => h) (Or.inl ⟨by rfl, ?hg84⟩) ?rg84
        case hg84 => (intro w0; go_simp; try with_reducible rfl)
        simp only [Act.put, List.setIfInBounds_toArray, List.set_cons_zero, List.set_cons_succ]
        refine take_at (i := 6) (some 33) (v := ?vg85) rfl rfl (by kernel_rfl) (by kernel_rfl) (by kernel_rfl) (fun _ _ _ h => h) (Or.inl ⟨by rfl, ?hg85⟩) ?rg85
        case hg85 => (intro w0; go_simp; try with_reducible rfl)
        simp only [Act.put, List.setIfInBounds_toArray, List.set_cons_zero, List.set_cons_succ]
        refine take_at (i := 7) (some 34) (v := ?vg86) rfl rfl (by kernel_rfl) (by kernel_rfl) (by kernel_rfl) (fun _ _ _ h => h) (Or.inl ⟨by rfl, ?hg86⟩) ?rg86
        case hg86 => (intro w0; go_simp; try with_reducible rfl)
        simp only [Act.put, List.setIfInBounds_toArray, List.set_cons_zero, List.set_cons_succ]
        refine take_at (i := 9) (some 36) (v := ?vg87) rfl rfl (by kernel_rfl) (by kernel_rfl) (by kernel_rfl) (fun _ _ _ h => h) (Or.inl ⟨by rfl, ?hg87⟩) ?rg87
        case hg87 => (intro w0; go_simp; try with_reducible rfl)
        simp only [Act.put, List.setIfInBounds_toArray, List.set_cons_zero, List.set_cons_succ]
        refine wpAny_ready (rs := [8]) (by kernel_rfl) (by simp) ?_
        refine AllReady.cons (o := _) rfl (fun K hK => ?_) AllReady.nil
        go_simp
        refine (records_any F g recs m w5 (LX.out.below B5) HM.out (by rw [HN.out]; omega)).mono ?_
        rintro e w8 ⟨A8, c8, vs8, rfl, k8a, k8b, own8, rows8, hb8⟩
        have B8 : Below X.heap.size X w8 := b_call B5 hb8
        refine hK _ _ ?_
        clear hK K
        refine wpAny_ready (rs := [10]) (by kernel_rfl) (by simp) ?_
        refine AllReady.cons (o := _) rfl (fun K hK => ?_) AllReady.nil
        go_simp
        refine (same_any A8 A1 m c8 m c1 _ _ vs8 vs recs recs true (by simp) w8 (rd_own own8) rows8 (rd_step RVX.out B8) (RWX.out.below B8) 4000 HRS4.out HRS4.out (by omega) (by omega)).mono ?_
        rintro e w10 ⟨rfl, hb10⟩
        have B10 : Below X.heap.size X w10 := b_call B8 hb10
        clear own8 rows8 hb10
        refine hK _ _ ?_
        clear hK K
        refine take_at (i := 11) (some 38) (v := ?vg90) rfl rfl (by kernel_rfl) (by kernel_rfl) (by kernel_rfl) (fun _ _ _ h => h) (Or.inl ⟨by rfl, ?hg90⟩) ?rg90
        case hg90 => (intro w0; go_simp; try with_reducible rfl)
        simp only [Act.put, List.setIfInBounds_toArray, List.set_cons_zero, List.set_cons_succ]
        refine take_at (i := 12) (some 39) (v := ?vg91) rfl rfl (by kernel_rfl) (by kernel_rfl) (by kernel_rfl) (fun _ _ _ h => h) (Or.inl ⟨by rfl, ?hg91⟩) ?rg91
        case hg91 => (intro w0; go_simp; try with_reducible rfl)
        simp only [Act.put, List.setIfInBounds_toArray, List.set_cons_zero, List.set_cons_succ]
        refine take_at (i := 13) (some 40) (v := ?vg92) rfl rfl (by kernel_rfl) (by kernel_rfl) (by kernel_rfl) (fun _ _ _ h => h) (Or.inl ⟨by rfl, ?hg92⟩) ?rg92
        case hg92 => (intro w0; go_simp; try with_reducible rfl)
        simp only [Act.put, List.setIfInBounds_toArray, List.set_cons_zero, List.set_cons_succ]
        refine take_at (i := 15) (some 42) (v := ?vg93) rfl rfl (by kernel_rfl) (by kernel_rfl) (by kernel_rfl) (fun _ _ _ h => h) (Or.inl ⟨by rfl, ?hg93⟩) ?rg93
        case hg93 => (intro w0; go_simp; try with_reducible rfl)
        simp only [Act.put, List.setIfInBounds_toArray, List.set_cons_zero, List.set_cons_succ]
        refine wpAny_ready (rs := [14]) (by kernel_rfl) (by simp) ?_
        refine AllReady.cons (o := _) rfl (fun K hK => ?_) AllReady.nil
        go_simp
        refine (records_any Fy g4 recs m w10 (LY.out.below B10) HM.out (by rw [HN.out]; omega)).mono ?_
        rintro e w14 ⟨A14, c14, vs14, rfl, k14a, k14b, own14, rows14, hb14⟩
        have B14 : Below X.heap.size X w14 := b_call B10 hb14
        refine hK _ _ ?_
        clear hK K
        refine wpAny_ready (rs := [16]) (by kernel_rfl) (by simp) ?_
        refine AllReady.cons (o := _) rfl (fun K hK => ?_) AllReady.nil
        go_simp
        refine (same_any A14 A1 m c14 m c1 _ _ vs14 vs recs recs true (by simp) w14 (rd_own own14) rows14 (rd_step RVX.out B14) (RWX.out.below B14) 4000 HRS4.out HRS4.out (by omega) (by omega)).mono ?_
        rintro e w16 ⟨rfl, hb16⟩
        have B16 : Below X.heap.size X w16 := b_call B14 hb16
        clear own14 rows14 hb16
        refine hK _ _ ?_
        clear hK K
        refine take_at (i := 17) (some 44) (v := ?vg96) rfl rfl (by kernel_rfl) (by kernel_rfl) (by kernel_rfl) (fun _ _ _ h => h) (Or.inl ⟨by rfl, ?hg96⟩) ?rg96
        case hg96 => (intro w0; go_simp; try with_reducible rfl)
        simp only [Act.put, List.setIfInBounds_toArray, List.set_cons_zero, List.set_cons_succ]
        refine take_at (i := 18) (some 45) (v := ?vg97) rfl rfl (by kernel_rfl) (by kernel_rfl) (by kernel_rfl) (fun _ _ _ h => h) (Or.inl ⟨by rfl, ?hg97⟩) ?rg97
        case hg97 => (intro w0; go_simp; try with_reducible rfl)
        simp only [Act.put, List.setIfInBounds_toArray, List.set_cons_zero, List.set_cons_succ]
        refine take_at (i := 19) (some 46) (v := ?vg98) rfl rfl (by kernel_rfl) (by kernel_rfl) (by kernel_rfl) (fun _ _ _ h => h) (Or.inl ⟨by rfl, ?hg98⟩) ?rg98
        case hg98 => (intro w0; go_simp; try with_reducible rfl)
        simp only [Act.put, List.setIfInBounds_toArray, List.set_cons_zero, List.set_cons_succ]
        refine take_at (i := 22) (some 49) (v := ?vg99) rfl rfl (by kernel_rfl) (by kernel_rfl) (by kernel_rfl) (fun _ _ _ h => h) (Or.inl ⟨by rfl, ?hg99⟩) ?rg99
        case hg99 => (intro w0; go_simp; try with_reducible rfl)
        simp only [Act.put, List.setIfInBounds_toArray, List.set_cons_zero, List.set_cons_succ]
        refine wpAny_ready (rs := [20, 23]) (by kernel_rfl) (by simp) ?_
        refine AllReady.cons (o := _) rfl (fun K hK => ?_) (AllReady.cons (o := _) rfl (fun K hK => ?_) AllReady.nil)
        · go_simp
          refine (lbytes_any Fy g4 (framesI recs) _ _ N w16 (LY.out.below B16) HN.out (by omega)).mono ?_
          rintro e w20 ⟨A20, c20, rfl, f1, f2, own20, hb20⟩
          have B20 : Below X.heap.size X w20 := b_call B16 hb20
          have CV20 := Lib.hid (cvAt c20 (rd_own own20))
          clear own20 hb20
          refine hK _ _ ?_
          clear hK K
          refine wpAny_ready (rs := [21, 23]) (by kernel_rfl) (by simp) ?_
          refine AllReady.cons (o := _) rfl (fun K hK => ?_) (AllReady.cons (o := _) rfl (fun K hK => ?_) AllReady.nil)
          · refine step_conv 48 rfl (by rfl) (.tmp 47) rfl rfl (CV20.out _ (by first | exact Below.refl _ _)) ?_
            refine hK _ _ ?_
            clear hK K
            refine wpAny_ready (rs := [23]) (by kernel_rfl) (by simp) ?_
            refine AllReady.cons (o := _) rfl (fun K hK => ?_) AllReady.nil
            · refine step_conv 50 rfl (by rfl) (.tmp 49) rfl rfl (CVB.out _ (by first | exact B20 | exact B16)) ?_
              refine hK _ _ ?_
              clear hK K
              refine take_at (i := 24) (some 51) (v := ?vg100) rfl rfl (by kernel_rfl) (by kernel_rfl) (by kernel_rfl) (fun _ _ _ h => h) (Or.inl ⟨by rfl, ?hg100⟩) ?rg100
              case hg100 => (intro w0; go_simp; try with_reducible rfl)
              simp only [Act.put, List.setIfInBounds_toArray, List.set_cons_zero, List.set_cons_succ]
              refine take_at (i := 25) (some 52) (v := ?vg101) rfl rfl (by kernel_rfl) (by kernel_rfl) (by kernel_rfl) (fun _ _ _ h => h) (Or.inl ⟨by rfl, ?hg101⟩) ?rg101
              case hg101 => (intro w0; go_simp; try with_reducible rfl)
              simp only [Act.put, List.setIfInBounds_toArray, List.set_cons_zero, List.set_cons_succ]
              refine take_at (i := 26) (some 53) (v := ?vg102) rfl rfl (by kernel_rfl) (by kernel_rfl) (by kernel_rfl) (fun _ _ _ h => h) (Or.inl ⟨by rfl, ?hg102⟩) ?rg102
              case hg102 => (intro w0; go_simp; try with_reducible rfl)
              simp only [Act.put, List.setIfInBounds_toArray, List.set_cons_zero, List.set_cons_succ]
              refine wpAny_ready (rs := [27]) (by kernel_rfl) (by simp) ?_
              refine AllReady.cons (o := _) rfl (fun K hK => ?_) AllReady.nil
              go_simp
              refine (lives_any w20).mono ?_
              rintro e w27 ⟨rfl, hb27⟩
              have B27 : Below X.heap.size X w27 := b_call B20 hb27
              refine hK _ _ ?_
              clear hK K
              refine take_at (i := 28) (some 55) (v := ?vg104) rfl rfl (by kernel_rfl) (by kernel_rfl) (by kernel_rfl) (fun _ _ _ h => h) (Or.inl ⟨by rfl, ?hg104⟩) ?rg104
              case hg104 => (intro w0; go_simp; try with_reducible rfl)
              simp only [Act.put, List.setIfInBounds_toArray, List.set_cons_zero, List.set_cons_succ]
              refine wpAny_ready (rs := [29]) (by kernel_rfl) (by simp) ?_
              refine AllReady.cons (o := _) rfl (fun K hK => ?_) AllReady.nil
              go_simp
              refine hK _ _ ?_
              clear hK K
              refine wpAny_done (by kernel_rfl) ?_ _
              go_wp2
              go_ret
              exact ⟨rfl, b_call BX.out B27⟩
          · refine step_conv 50 rfl (by rfl) (.tmp 49) rfl rfl (CVB.out _ (by first | exact B20 | exact B16)) ?_
            refine hK _ _ ?_
            clear hK K
            refine wpAny_ready (rs := [21]) (by kernel_rfl) (by simp) ?_
            refine AllReady.cons (o := _) rfl (fun K hK => ?_) AllReady.nil
            · refine step_conv 48 rfl (by rfl) (.tmp 47) rfl rfl (CV20.out _ (by first | exact Below.refl _ _)) ?_
              refine hK _ _ ?_
              clear hK K
              refine take_at (i := 24) (some 51) (v := ?vg108) rfl rfl (by kernel_rfl) (by kernel_rfl) (by kernel_rfl) (fun _ _ _ h => h) (Or.inl ⟨by rfl, ?hg108⟩) ?rg108
              case hg108 => (intro w0; go_simp; try with_reducible rfl)
              simp only [Act.put, List.setIfInBounds_toArray, List.set_cons_zero, List.set_cons_succ]
              refine take_at (i := 25) (some 52) (v := ?vg109) rfl rfl (by kernel_rfl) (by kernel_rfl) (by kernel_rfl) (fun _ _ _ h => h) (Or.inl ⟨by rfl, ?hg109⟩) ?rg109
              case hg109 => (intro w0; go_simp; try with_reducible rfl)
              simp only [Act.put, List.setIfInBounds_toArray, List.set_cons_zero, List.set_cons_succ]
              refine take_at (i := 26) (some 53) (v := ?vg110) rfl rfl (by kernel_rfl) (by kernel_rfl) (by kernel_rfl) (fun _ _ _ h => h) (Or.inl ⟨by rfl, ?hg110⟩) ?rg110
              case hg110 => (intro w0; go_simp; try with_reducible rfl)
              simp only [Act.put, List.setIfInBounds_toArray, List.set_cons_zero, List.set_cons_succ]
              refine wpAny_ready (rs := [27]) (by kernel_rfl) (by simp) ?_
              refine AllReady.cons (o := _) rfl (fun K hK => ?_) AllReady.nil
              go_simp
              refine (lives_any w20).mono ?_
              rintro e w27 ⟨rfl, hb27⟩
              have B27 : Below X.heap.size X w27 := b_call B20 hb27
              refine hK _ _ ?_
              clear hK K
              refine take_at (i := 28) (some 55) (v := ?vg112) rfl rfl (by kernel_rfl) (by kernel_rfl) (by kernel_rfl) (fun _ _ _ h => h) (Or.inl ⟨by rfl, ?hg112⟩) ?rg112
              case hg112 => (intro w0; go_simp; try with_reducible rfl)
              simp only [Act.put, List.setIfInBounds_toArray, List.set_cons_zero, List.set_cons_succ]
              refine wpAny_ready (rs := [29]) (by kernel_rfl) (by simp) ?_
              refine AllReady.cons (o := _) rfl (fun K hK => ?_) AllReady.nil
              go_simp
              refine hK _ _ ?_
              clear hK K
              refine wpAny_done (by kernel_rfl) ?_ _
              go_wp2
              go_ret
              exact ⟨rfl, b_call BX.out B27⟩
        · refine step_conv 50 rfl (by rfl) (.tmp 49) rfl rfl (CVB.out _ (by first | exact B20 | exact B16)) ?_
          refine hK _ _ ?_
          clear hK K
          refine wpAny_ready (rs := [20]) (by kernel_rfl) (by simp) ?_
          refine AllReady.cons (o := _) rfl (fun K hK => ?_) AllReady.nil
          · go_simp
            refine (lbytes_any Fy g4 (framesI recs) _ _ N w16 (LY.out.below B16) HN.out (by omega)).mono ?_
            rintro e w20 ⟨A20, c20, rfl, f1, f2, own20, hb20⟩
            have B20 : Below X.heap.size X w20 := b_call B16 hb20
            have CV20 := Lib.hid (cvAt c20 (rd_own own20))
            clear own20 hb20
            refine hK _ _ ?_
            clear hK K
            refine wpAny_ready (rs := [21]) (by kernel_rfl) (by simp) ?_
            refine AllReady.cons (o := _) rfl (fun K hK => ?_) AllReady.nil
            · refine step_conv 48 rfl (by rfl) (.tmp 47) rfl rfl (CV20.out _ (by first | exact Below.refl _ _)) ?_
              refine hK _ _ ?_
              clear hK K
              refine take_at (i := 24) (some 51) (v := ?vg116) rfl rfl (by kernel_rfl) (by kernel_rfl) (by kernel_rfl) (fun _ _ _ h => h) (Or.inl ⟨by rfl, ?hg116⟩) ?rg116
              case hg116 => (intro w0; go_simp; try with_reducible rfl)
              simp only [Act.put, List.setIfInBounds_toArray, List.set_cons_zero, List.set_cons_succ]
              refine take_at (i := 25) (some 52) (v := ?vg117) rfl rfl (by kernel_rfl) (by kernel_rfl) (by kernel_rfl) (fun _ _ _ h => h) (Or.inl ⟨by rfl, ?hg117⟩) ?rg117
              case hg117 => (intro w0; go_simp; try with_reducible rfl)
              simp only [Act.put, List.setIfInBounds_toArray, List.set_cons_zero, List.set_cons_succ]
              refine take_at (i := 26) (some 53) (v := ?vg118) rfl rfl (by kernel_rfl) (by kernel_rfl) (by kernel_rfl) (fun _ _ _ h => h) (Or.inl ⟨by rfl, ?hg118⟩) ?rg118
              case hg118 => (intro w0; go_simp; try with_reducible rfl)
              simp only [Act.put, List.setIfInBounds_toArray, List.set_cons_zero, List.set_cons_succ]
              refine wpAny_ready (rs := [27]) (by kernel_rfl) (by simp) ?_
              refine AllReady.cons (o := _) rfl (fun K hK => ?_) AllReady.nil
              go_simp
              refine (lives_any w20).mono ?_
              rintro e w27 ⟨rfl, hb27⟩
              have B27 : Below X.heap.size X w27 := b_call B20 hb27
              refine hK _ _ ?_
              clear hK K
              refine take_at (i := 28) (some 55) (v := ?vg120) rfl rfl (by kernel_rfl) (by kernel_rfl) (by kernel_rfl) (fun _ _ _ h => h) (Or.inl ⟨by rfl, ?hg120⟩) ?rg120
              case hg120 => (intro w0; go_simp; try with_reducible rfl)
              simp only [Act.put, List.setIfInBounds_toArray, List.set_cons_zero, List.set_cons_succ]
              refine wpAny_ready (rs := [29]) (by kernel_rfl) (by simp) ?_
              refine AllReady.cons (o := _) rfl (fun K hK => ?_) AllReady.nil
              go_simp
              refine hK _ _ ?_
              clear hK K
              refine wpAny_done (by kernel_rfl) ?_ _
              go_wp2
              go_ret
              exact ⟨rfl, b_call BX.out B27⟩
end Go.Proofs.Ytmoajnekegbncaa
