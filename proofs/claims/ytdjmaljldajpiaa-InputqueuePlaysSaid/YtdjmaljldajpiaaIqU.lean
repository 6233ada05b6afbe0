/-
  WHAT IS PROVED HERE: one statement of the reference's Offer, the append of the accepted input. No condition but that the queue lies in memory as stated.
-/
import Derived.Test.YtdjmaljldajpiaaIqT
import Derived.Test.YtdjmaljldajpiaaIqG2
namespace Go.Proofs.Ytdjmaljldajpiaa
set_option linter.unusedVariables false
open Go.ChangeShapes Go.WideShapes Go.ChangeAt Go.RowKit

theorem name_any {P : Program} {md : Region.Mode} {ops : Array Oper} {Q : Exit → Go.Act → World → Prop} {fuel : Nat} {listed : Array Bool} {a : Go.Act} {W : World} (h : ∀ X, X = W → wpAny P md ops Q fuel listed a X) : wpAny P md ops Q fuel listed a W := h W rfl
theorem vr_app_ne {w w' : World} {e h8 : Nat} {t t' : TypeId} {cs : Array Value} {c : Nat} (VE : Vr w e t #[]) (V8 : Vr w h8 t' cs) (hc : ¬ cs.size = 0) (hg : w.grownBy w' (Value.slice (some (⟨e, 0, none⟩ : Addr)) 0 c).ownBlock) : Vr w' h8 t' cs :=
  V8.grown hg (by
    intro h
    have : h8 = e := by
      have h' : some h8 = some e := h
      injection h'
    subst this
    unfold Vr at VE V8
    rw [VE] at V8
    injection V8 with V8
    injection V8 with h1 h2
    rw [← h1] at hc
    exact hc rfl)
theorem rd_vr {w : World} {b m sz : Nat} {t : TypeId} {cs : Array Value} (h : Vr w b t cs) (hs : cs.size = m * sz) : Rd w w.heap.size sz (some ⟨b, 0, none⟩) m cs.toList :=
  ⟨by simpa using hs, fun _ => ⟨b, 0, rfl, h.lt, fun j u hu => by rw [Nat.zero_add, h.cell]; simpa using hu⟩⟩
noncomputable def off12 : Code := (Try.f15.body.bind (regionAt 12)).getD .skip
set_option maxRecDepth 100000 in
set_option maxHeartbeats 8000000 in
theorem off_region (J : Go.Act → World → Prop) (q hi : Nat) (k wt : Nat) (AL : Option Addr) (nL cL : Nat) (AR : Option Addr) (nR cR : Nat) (AM : Option Addr) (nM cM : Nat) (L : List OneV) (player tick : Int) (x y z : Int) (X : World) (u0 u1 u4 u6 u7 u8 u10 u11 u12 u13 u14 u15 u16 u17 u18 u19 u20 u21 u22 u23 u24 u25 u26 u27 u28 u29 u30 u31 u32 u33 u34 u35 u36 u37 u38 u39 u40 u41 u42 u43 u44 u45 u46 u47 u48 u49 u50 u51 u52 u53 u54 u55 u56 u57 u58 u59 u60 u61 u62 u63 u64 : Value)
    (HQ : Vr X q 30 #[.int .i64 k, .int .i64 wt, .slice AL nL cL, .slice AR nR cR, .slice AM nM cM]) (HI : Vr X hi 34 #[.int .i64 x, .int .i64 y, .int .i64 z]) (rd : Rd X X.heap.size 5 AL nL (onesC L)) (hnL : nL ≤ 100000)
    (hJ : ∀ (A' : Option Addr) (c' : Nat) (Z : World) (v53 v54 v55 v56 v57 v58 v59 v60 v61 v62 v63 : Value), Z.ownsRow X.heap.size 66 5 (.slice A' (nL + 1) c') (nL + 1) (onesC (L ++ [(player, tick, (x, y, z))])) → Vr Z q 30 #[.int .i64 k, .int .i64 wt, .slice A' (nL + 1) c', .slice AR nR cR, .slice AM nM cM] → Only (· = q) X Z → J ⟨#[u0, u1, Value.int .i64 player, Value.int .i64 tick, u4, Value.pointer (some ⟨q, 0, none⟩), u6, u7, u8, Value.pointer (some ⟨hi, 0, none⟩), u10, u11, u12, u13, u14, u15, u16, u17, u18, u19, u20, u21, u22, u23, u24, u25, u26, u27, u28, u29, u30, u31, u32, u33, u34, u35, u36, u37, u38, u39, u40, u41, u42, u43, u44, u45, u46, u47, u48, u49, u50, u51, u52, v53, v54, v55, v56, v57, v58, v59, v60, v61, v62, v63, u64], []⟩ Z) :
    Code.wp Try.prog off12 (OnlyN J) ⟨#[u0, u1, Value.int .i64 player, Value.int .i64 tick, u4, Value.pointer (some ⟨q, 0, none⟩), u6, u7, u8, Value.pointer (some ⟨hi, 0, none⟩), u10, u11, u12, u13, u14, u15, u16, u17, u18, u19, u20, u21, u22, u23, u24, u25, u26, u27, u28, u29, u30, u31, u32, u33, u34, u35, u36, u37, u38, u39, u40, u41, u42, u43, u44, u45, u46, u47, u48, u49, u50, u51, u52, u53, u54, u55, u56, u57, u58, u59, u60, u61, u62, u63, u64], []⟩ X := by
  have HJ := Lib.hid hJ
  obtain ⟨OC, hOC⟩ : ∃ OC : Array Value, OC = #[.int .i64 player, .int .i64 tick, .int .i64 x, .int .i64 y, .int .i64 z] := ⟨_, rfl⟩
  have hOCs : OC.size = 1 * 5 := by rw [hOC]; rfl
  have hOCn : ¬ OC.size = 0 := by rw [hOCs]; decide
  have hOCc : ∀ u ∈ OC.toList, u.oneCell' = true := by
    intro u hu
    rw [hOC] at hu
    simp at hu
    rcases hu with h | h | h | h | h <;> (subst h; rfl)
  have hOL : onesC (L ++ [(player, tick, (x, y, z))]) = onesC L ++ OC.toList := by
    unfold onesC
    rw [List.flatMap_append, hOC]
    simp [oneC]
  have hq := HQ.lt
  have hq2 : X.cell? ⟨q, 2, none⟩ = some (.slice AL nL cL) := by rw [HQ.cell]; rfl
  have hi0 : X.cell? ⟨hi, 0, none⟩ = some (.int .i64 x) := by rw [HI.cell]; rfl
  have hi1 : X.cell? ⟨hi, 1, none⟩ = some (.int .i64 y) := by rw [HI.cell]; rfl
  have hi2 : X.cell? ⟨hi, 2, none⟩ = some (.int .i64 z) := by rw [HI.cell]; rfl
  clear hJ HI
  conv => arg 2; whnf
  refine wp_region_any (by kernel_rfl) ?_
  change wpAny _ _ _ _ _ _ _ (World.drew _)
  refine name_any ?_
  intro w0 hw0
  have hB0 : Below X.heap.size X w0 := by rw [hw0]; exact b_drew (Below.refl _ _)
  clear hw0
  have cq0 := cell_keep hB0 hq2
  have ci00 := cell_keep hB0 hi0
  have ci01 := cell_keep hB0 hi1
  have ci02 := cell_keep hB0 hi2
  refine take_at (i := 1) (some 54) (v := ?vo96) rfl rfl (by kernel_rfl) (by kernel_rfl) (by kernel_rfl) (fun _ _ _ h => h) (Or.inl ⟨by rfl, ?ho96⟩) ?ro96
  case ho96 => (intro w0; go_simp; try with_reducible rfl)
  simp only [Act.put, List.setIfInBounds_toArray, List.set_cons_zero, List.set_cons_succ]
  refine take_at (i := 4) (some 57) (v := ?vo97) rfl rfl (by kernel_rfl) (by kernel_rfl) (by kernel_rfl) (fun _ _ _ h => h) (Or.inl ⟨by rfl, ?ho97⟩) ?ro97
  case ho97 => (intro w0; go_simp; try with_reducible rfl)
  simp only [Act.put, List.setIfInBounds_toArray, List.set_cons_zero, List.set_cons_succ]
  refine take_at (i := 5) (some 58) (v := ?vo98) rfl rfl (by kernel_rfl) (by kernel_rfl) (by kernel_rfl) (fun _ _ _ h => h) (Or.inl ⟨by rfl, ?ho98⟩) ?ro98
  case ho98 => (intro w0; go_simp; try with_reducible rfl)
  simp only [Act.put, List.setIfInBounds_toArray, List.set_cons_zero, List.set_cons_succ]
  refine wpAny_ready (rs := [0, 2, 6]) (by kernel_rfl) (by simp) ?_
  refine AllReady.cons (o := _) rfl (fun K hK => ?_) (AllReady.cons (o := _) rfl (fun K hK => ?_) (AllReady.cons (o := _) rfl (fun K hK => ?_) AllReady.nil))
  · go_simp
    refine hK _ _ ?_
    clear hK K
    refine name_any ?_
    intro w1 hw1
    have hB1 : Below X.heap.size X w1 := by rw [hw1]; exact b_alloc hB0 _
    have VE1 : Vr w1 w0.heap.size 66 #[] := by rw [hw1]; exact Vr.new w0 _ _
    have hge1 : X.heap.size ≤ w0.heap.size := hB0.size
    clear hw1
    have cq1 := cell_keep hB1 hq2
    have ci10 := cell_keep hB1 hi0
    have ci11 := cell_keep hB1 hi1
    have ci12 := cell_keep hB1 hi2
    refine wpAny_ready (rs := [2, 6]) (by kernel_rfl) (by simp) ?_
    refine AllReady.cons (o := _) rfl (fun K hK => ?_) (AllReady.cons (o := _) rfl (fun K hK => ?_) AllReady.nil)
    · go_simp
      refine hK _ _ ?_
      clear hK K
      refine wpAny_ready (rs := [3, 6]) (by kernel_rfl) (by simp) ?_
      refine AllReady.cons (o := _) rfl (fun K hK => ?_) (AllReady.cons (o := _) rfl (fun K hK => ?_) AllReady.nil)
      · refine step_app _ rfl (.tmp 53) (.tmp 55) slOnes rfl rfl (own_shut (sz := 5) (N := 0) (xs := []) hge1 VE1 (by simp) (by simp) (Nat.le_refl _) (by simp [maxLen]) (by simp)) rfl (rd.below hB1 (Nat.le_refl _)) (onesC_cell L) nL (Nat.zero_add _) (by unfold maxLen; omega) (by omega) hB1.size ?_
        intro A3 c3 w2 g1 g2 g3 g4 g5
        have hB2 := below_app hB1 (own_shut (sz := 5) (N := 0) (xs := []) hge1 VE1 (by simp) (by simp) (Nat.le_refl _) (by simp [maxLen]) (by simp)) g4 (Nat.le_refl _) hB1.size
        have O32 : w2.ownsRow X.heap.size 66 5 (.slice A3 nL c3) nL (onesC L) := by simpa using g3
        clear g1 g2 g3 g4 g5
        refine hK _ _ ?_
        clear hK K
        have cq2 := cell_keep hB2 hq2
        have ci20 := cell_keep hB2 hi0
        have ci21 := cell_keep hB2 hi1
        have ci22 := cell_keep hB2 hi2
        refine wpAny_ready (rs := [6]) (by kernel_rfl) (by simp) ?_
        refine AllReady.cons (o := _) rfl (fun K hK => ?_) AllReady.nil
        · go_simp
          refine hK _ _ ?_
          clear hK K
          refine take_at (i := 7) (some 60) (v := ?vo3) rfl rfl (by kernel_rfl) (by kernel_rfl) (by kernel_rfl) (fun _ _ _ h => h) (Or.inl ⟨by rfl, ?ho3⟩) ?ro3
          case ho3 => (intro w0; go_simp; try with_reducible rfl)
          simp only [Act.put, List.setIfInBounds_toArray, List.set_cons_zero, List.set_cons_succ]
          refine wpAny_ready (rs := [8]) (by kernel_rfl) (by simp) ?_
          refine AllReady.cons (o := _) rfl (fun K hK => ?_) AllReady.nil
          · go_simp
            refine hK _ _ ?_
            clear hK K
            refine name_any ?_
            intro w4 hw4
            have hB4 : Below X.heap.size X w4 := by rw [hw4]; exact b_alloc hB2 _
            have V84 : Vr w4 w2.heap.size 66 OC := by rw [hw4, hOC]; exact Vr.new w2 _ _
            have O34 := O32.alloc (.cells OC 66)
            rw [hOC, ← hw4] at O34
            clear hw4
            have cq4 := cell_keep hB4 hq2
            have ci40 := cell_keep hB4 hi0
            have ci41 := cell_keep hB4 hi1
            have ci42 := cell_keep hB4 hi2
            refine wpAny_ready (rs := [9]) (by kernel_rfl) (by simp) ?_
            refine AllReady.cons (o := _) rfl (fun K hK => ?_) AllReady.nil
            · refine step_app _ rfl (.tmp 56) (.tmp 61) slOnes rfl rfl O34 rfl (rd_vr V84 (m := 1) (sz := 5) hOCs) hOCc (nL + 1) rfl (by unfold maxLen; omega) (by omega) hB4.size ?_
              intro A5 c5 w5 g1 g2 g3 g4 g5
              have hB5 := below_app hB4 O34 g4 (Nat.le_refl _) hB4.size
              have O9 : w5.ownsRow X.heap.size 66 5 (.slice A5 (nL + 1) c5) (nL + 1) (onesC (L ++ [(player, tick, (x, y, z))])) := by rw [hOL]; exact g3
              clear g1 g2 g3 g4 g5
              refine hK _ _ ?_
              clear hK K
              have cq5 := cell_keep hB5 hq2
              have ci50 := cell_keep hB5 hi0
              have ci51 := cell_keep hB5 hi1
              have ci52 := cell_keep hB5 hi2
              refine take_at (i := 10) (some 63) (v := ?vo6) rfl rfl (by kernel_rfl) (by kernel_rfl) (by kernel_rfl) (fun _ _ _ h => h) (Or.inl ⟨by rfl, ?ho6⟩) ?ro6
              case ho6 => (intro w0; go_simp; try with_reducible rfl)
              simp only [Act.put, List.setIfInBounds_toArray]
              refine wpAny_ready (rs := [11]) (by kernel_rfl) (by simp) ?_
              refine AllReady.cons (o := _) rfl (fun K hK => ?_) AllReady.nil
              · have VQ := HQ.keep hB5 HQ.lt
                obtain ⟨vq1, vq2, vq3⟩ := VQ.facts
                go_simp
                refine hK _ _ ?_
                clear hK K
                refine wpAny_done (by kernel_rfl) ?_ _
                exact HJ.out A5 c5 _ _ _ _ _ _ _ _ _ _ _ _ (own_cell O9 (q := ⟨q, 2, none⟩) (by intro e; have := (O9.lt q e.symm).1; omega) _) (by simpa using VQ.set 2 (.slice A5 (nL + 1) c5)) (((Only.of_below hB5 (· = q) (fun j h1 h2 => by omega)).setCell (p := ⟨q, 2, none⟩) (.inl rfl) _))
      · go_simp
        refine hK _ _ ?_
        clear hK K
        refine take_at (i := 7) (some 60) (v := ?vo7) rfl rfl (by kernel_rfl) (by kernel_rfl) (by kernel_rfl) (fun _ _ _ h => h) (Or.inl ⟨by rfl, ?ho7⟩) ?ro7
        case ho7 => (intro w0; go_simp; try with_reducible rfl)
        simp only [Act.put, List.setIfInBounds_toArray, List.set_cons_zero, List.set_cons_succ]
        refine wpAny_ready (rs := [3, 8]) (by kernel_rfl) (by simp) ?_
        refine AllReady.cons (o := _) rfl (fun K hK => ?_) (AllReady.cons (o := _) rfl (fun K hK => ?_) AllReady.nil)
        · refine step_app _ rfl (.tmp 53) (.tmp 55) slOnes rfl rfl (own_shut (sz := 5) (N := 0) (xs := []) hge1 VE1 (by simp) (by simp) (Nat.le_refl _) (by simp [maxLen]) (by simp)) rfl (rd.below hB1 (Nat.le_refl _)) (onesC_cell L) nL (Nat.zero_add _) (by unfold maxLen; omega) (by omega) hB1.size ?_
          intro A3 c3 w8 g1 g2 g3 g4 g5
          have hB8 := below_app hB1 (own_shut (sz := 5) (N := 0) (xs := []) hge1 VE1 (by simp) (by simp) (Nat.le_refl _) (by simp [maxLen]) (by simp)) g4 (Nat.le_refl _) hB1.size
          have O38 : w8.ownsRow X.heap.size 66 5 (.slice A3 nL c3) nL (onesC L) := by simpa using g3
          clear g1 g2 g3 g4 g5
          refine hK _ _ ?_
          clear hK K
          have cq8 := cell_keep hB8 hq2
          have ci80 := cell_keep hB8 hi0
          have ci81 := cell_keep hB8 hi1
          have ci82 := cell_keep hB8 hi2
          refine wpAny_ready (rs := [8]) (by kernel_rfl) (by simp) ?_
          refine AllReady.cons (o := _) rfl (fun K hK => ?_) AllReady.nil
          · go_simp
            refine hK _ _ ?_
            clear hK K
            refine name_any ?_
            intro w9 hw9
            have hB9 : Below X.heap.size X w9 := by rw [hw9]; exact b_alloc hB8 _
            have V89 : Vr w9 w8.heap.size 66 OC := by rw [hw9, hOC]; exact Vr.new w8 _ _
            have O39 := O38.alloc (.cells OC 66)
            rw [hOC, ← hw9] at O39
            clear hw9
            have cq9 := cell_keep hB9 hq2
            have ci90 := cell_keep hB9 hi0
            have ci91 := cell_keep hB9 hi1
            have ci92 := cell_keep hB9 hi2
            refine wpAny_ready (rs := [9]) (by kernel_rfl) (by simp) ?_
            refine AllReady.cons (o := _) rfl (fun K hK => ?_) AllReady.nil
            · refine step_app _ rfl (.tmp 56) (.tmp 61) slOnes rfl rfl O39 rfl (rd_vr V89 (m := 1) (sz := 5) hOCs) hOCc (nL + 1) rfl (by unfold maxLen; omega) (by omega) hB9.size ?_
              intro A5 c5 w10 g1 g2 g3 g4 g5
              have hB10 := below_app hB9 O39 g4 (Nat.le_refl _) hB9.size
              have O9 : w10.ownsRow X.heap.size 66 5 (.slice A5 (nL + 1) c5) (nL + 1) (onesC (L ++ [(player, tick, (x, y, z))])) := by rw [hOL]; exact g3
              clear g1 g2 g3 g4 g5
              refine hK _ _ ?_
              clear hK K
              have cq10 := cell_keep hB10 hq2
              have ci100 := cell_keep hB10 hi0
              have ci101 := cell_keep hB10 hi1
              have ci102 := cell_keep hB10 hi2
              refine take_at (i := 10) (some 63) (v := ?vo11) rfl rfl (by kernel_rfl) (by kernel_rfl) (by kernel_rfl) (fun _ _ _ h => h) (Or.inl ⟨by rfl, ?ho11⟩) ?ro11
              case ho11 => (intro w0; go_simp; try with_reducible rfl)
              simp only [Act.put, List.setIfInBounds_toArray]
              refine wpAny_ready (rs := [11]) (by kernel_rfl) (by simp) ?_
              refine AllReady.cons (o := _) rfl (fun K hK => ?_) AllReady.nil
              · have VQ := HQ.keep hB10 HQ.lt
                obtain ⟨vq1, vq2, vq3⟩ := VQ.facts
                go_simp
                refine hK _ _ ?_
                clear hK K
                refine wpAny_done (by kernel_rfl) ?_ _
                exact HJ.out A5 c5 _ _ _ _ _ _ _ _ _ _ _ _ (own_cell O9 (q := ⟨q, 2, none⟩) (by intro e; have := (O9.lt q e.symm).1; omega) _) (by simpa using VQ.set 2 (.slice A5 (nL + 1) c5)) (((Only.of_below hB10 (· = q) (fun j h1 h2 => by omega)).setCell (p := ⟨q, 2, none⟩) (.inl rfl) _))
        · go_simp
          refine hK _ _ ?_
          clear hK K
          refine name_any ?_
          intro w12 hw12
          have hB12 : Below X.heap.size X w12 := by rw [hw12]; exact b_alloc hB1 _
          have V812 : Vr w12 w1.heap.size 66 OC := by rw [hw12, hOC]; exact Vr.new w1 _ _
          have VE12 : Vr w12 w0.heap.size 66 #[] := by rw [hw12]; exact VE1.alloc _
          clear hw12
          have cq12 := cell_keep hB12 hq2
          have ci120 := cell_keep hB12 hi0
          have ci121 := cell_keep hB12 hi1
          have ci122 := cell_keep hB12 hi2
          refine wpAny_ready (rs := [3]) (by kernel_rfl) (by simp) ?_
          refine AllReady.cons (o := _) rfl (fun K hK => ?_) AllReady.nil
          · refine step_app _ rfl (.tmp 53) (.tmp 55) slOnes rfl rfl (own_shut (sz := 5) (N := 0) (xs := []) hge1 VE12 (by simp) (by simp) (Nat.le_refl _) (by simp [maxLen]) (by simp)) rfl (rd.below hB12 (Nat.le_refl _)) (onesC_cell L) nL (Nat.zero_add _) (by unfold maxLen; omega) (by omega) hB12.size ?_
            intro A3 c3 w13 g1 g2 g3 g4 g5
            have hB13 := below_app hB12 (own_shut (sz := 5) (N := 0) (xs := []) hge1 VE12 (by simp) (by simp) (Nat.le_refl _) (by simp [maxLen]) (by simp)) g4 (Nat.le_refl _) hB12.size
            have O313 : w13.ownsRow X.heap.size 66 5 (.slice A3 nL c3) nL (onesC L) := by simpa using g3
            have V813 := vr_app_ne VE12 V812 hOCn g4
            clear g1 g2 g3 g4 g5
            refine hK _ _ ?_
            clear hK K
            have cq13 := cell_keep hB13 hq2
            have ci130 := cell_keep hB13 hi0
            have ci131 := cell_keep hB13 hi1
            have ci132 := cell_keep hB13 hi2
            refine wpAny_ready (rs := [9]) (by kernel_rfl) (by simp) ?_
            refine AllReady.cons (o := _) rfl (fun K hK => ?_) AllReady.nil
            · refine step_app _ rfl (.tmp 56) (.tmp 61) slOnes rfl rfl O313 rfl (rd_vr V813 (m := 1) (sz := 5) hOCs) hOCc (nL + 1) rfl (by unfold maxLen; omega) (by omega) hB13.size ?_
              intro A5 c5 w14 g1 g2 g3 g4 g5
              have hB14 := below_app hB13 O313 g4 (Nat.le_refl _) hB13.size
              have O9 : w14.ownsRow X.heap.size 66 5 (.slice A5 (nL + 1) c5) (nL + 1) (onesC (L ++ [(player, tick, (x, y, z))])) := by rw [hOL]; exact g3
              clear g1 g2 g3 g4 g5
              refine hK _ _ ?_
              clear hK K
              have cq14 := cell_keep hB14 hq2
              have ci140 := cell_keep hB14 hi0
              have ci141 := cell_keep hB14 hi1
              have ci142 := cell_keep hB14 hi2
              refine take_at (i := 10) (some 63) (v := ?vo15) rfl rfl (by kernel_rfl) (by kernel_rfl) (by kernel_rfl) (fun _ _ _ h => h) (Or.inl ⟨by rfl, ?ho15⟩) ?ro15
              case ho15 => (intro w0; go_simp; try with_reducible rfl)
              simp only [Act.put, List.setIfInBounds_toArray]
              refine wpAny_ready (rs := [11]) (by kernel_rfl) (by simp) ?_
              refine AllReady.cons (o := _) rfl (fun K hK => ?_) AllReady.nil
              · have VQ := HQ.keep hB14 HQ.lt
                obtain ⟨vq1, vq2, vq3⟩ := VQ.facts
                go_simp
                refine hK _ _ ?_
                clear hK K
                refine wpAny_done (by kernel_rfl) ?_ _
                exact HJ.out A5 c5 _ _ _ _ _ _ _ _ _ _ _ _ (own_cell O9 (q := ⟨q, 2, none⟩) (by intro e; have := (O9.lt q e.symm).1; omega) _) (by simpa using VQ.set 2 (.slice A5 (nL + 1) c5)) (((Only.of_below hB14 (· = q) (fun j h1 h2 => by omega)).setCell (p := ⟨q, 2, none⟩) (.inl rfl) _))
    · go_simp
      refine hK _ _ ?_
      clear hK K
      refine take_at (i := 7) (some 60) (v := ?vo16) rfl rfl (by kernel_rfl) (by kernel_rfl) (by kernel_rfl) (fun _ _ _ h => h) (Or.inl ⟨by rfl, ?ho16⟩) ?ro16
      case ho16 => (intro w0; go_simp; try with_reducible rfl)
      simp only [Act.put, List.setIfInBounds_toArray, List.set_cons_zero, List.set_cons_succ]
      refine wpAny_ready (rs := [2, 8]) (by kernel_rfl) (by simp) ?_
      refine AllReady.cons (o := _) rfl (fun K hK => ?_) (AllReady.cons (o := _) rfl (fun K hK => ?_) AllReady.nil)
      · go_simp
        refine hK _ _ ?_
        clear hK K
        refine wpAny_ready (rs := [3, 8]) (by kernel_rfl) (by simp) ?_
        refine AllReady.cons (o := _) rfl (fun K hK => ?_) (AllReady.cons (o := _) rfl (fun K hK => ?_) AllReady.nil)
        · refine step_app _ rfl (.tmp 53) (.tmp 55) slOnes rfl rfl (own_shut (sz := 5) (N := 0) (xs := []) hge1 VE1 (by simp) (by simp) (Nat.le_refl _) (by simp [maxLen]) (by simp)) rfl (rd.below hB1 (Nat.le_refl _)) (onesC_cell L) nL (Nat.zero_add _) (by unfold maxLen; omega) (by omega) hB1.size ?_
          intro A3 c3 w17 g1 g2 g3 g4 g5
          have hB17 := below_app hB1 (own_shut (sz := 5) (N := 0) (xs := []) hge1 VE1 (by simp) (by simp) (Nat.le_refl _) (by simp [maxLen]) (by simp)) g4 (Nat.le_refl _) hB1.size
          have O317 : w17.ownsRow X.heap.size 66 5 (.slice A3 nL c3) nL (onesC L) := by simpa using g3
          clear g1 g2 g3 g4 g5
          refine hK _ _ ?_
          clear hK K
          have cq17 := cell_keep hB17 hq2
          have ci170 := cell_keep hB17 hi0
          have ci171 := cell_keep hB17 hi1
          have ci172 := cell_keep hB17 hi2
          refine wpAny_ready (rs := [8]) (by kernel_rfl) (by simp) ?_
          refine AllReady.cons (o := _) rfl (fun K hK => ?_) AllReady.nil
          · go_simp
            refine hK _ _ ?_
            clear hK K
            refine name_any ?_
            intro w18 hw18
            have hB18 : Below X.heap.size X w18 := by rw [hw18]; exact b_alloc hB17 _
            have V818 : Vr w18 w17.heap.size 66 OC := by rw [hw18, hOC]; exact Vr.new w17 _ _
            have O318 := O317.alloc (.cells OC 66)
            rw [hOC, ← hw18] at O318
            clear hw18
            have cq18 := cell_keep hB18 hq2
            have ci180 := cell_keep hB18 hi0
            have ci181 := cell_keep hB18 hi1
            have ci182 := cell_keep hB18 hi2
            refine wpAny_ready (rs := [9]) (by kernel_rfl) (by simp) ?_
            refine AllReady.cons (o := _) rfl (fun K hK => ?_) AllReady.nil
            · refine step_app _ rfl (.tmp 56) (.tmp 61) slOnes rfl rfl O318 rfl (rd_vr V818 (m := 1) (sz := 5) hOCs) hOCc (nL + 1) rfl (by unfold maxLen; omega) (by omega) hB18.size ?_
              intro A5 c5 w19 g1 g2 g3 g4 g5
              have hB19 := below_app hB18 O318 g4 (Nat.le_refl _) hB18.size
              have O9 : w19.ownsRow X.heap.size 66 5 (.slice A5 (nL + 1) c5) (nL + 1) (onesC (L ++ [(player, tick, (x, y, z))])) := by rw [hOL]; exact g3
              clear g1 g2 g3 g4 g5
              refine hK _ _ ?_
              clear hK K
              have cq19 := cell_keep hB19 hq2
              have ci190 := cell_keep hB19 hi0
              have ci191 := cell_keep hB19 hi1
              have ci192 := cell_keep hB19 hi2
              refine take_at (i := 10) (some 63) (v := ?vo20) rfl rfl (by kernel_rfl) (by kernel_rfl) (by kernel_rfl) (fun _ _ _ h => h) (Or.inl ⟨by rfl, ?ho20⟩) ?ro20
              case ho20 => (intro w0; go_simp; try with_reducible rfl)
              simp only [Act.put, List.setIfInBounds_toArray]
              refine wpAny_ready (rs := [11]) (by kernel_rfl) (by simp) ?_
              refine AllReady.cons (o := _) rfl (fun K hK => ?_) AllReady.nil
              · have VQ := HQ.keep hB19 HQ.lt
                obtain ⟨vq1, vq2, vq3⟩ := VQ.facts
                go_simp
                refine hK _ _ ?_
                clear hK K
                refine wpAny_done (by kernel_rfl) ?_ _
                exact HJ.out A5 c5 _ _ _ _ _ _ _ _ _ _ _ _ (own_cell O9 (q := ⟨q, 2, none⟩) (by intro e; have := (O9.lt q e.symm).1; omega) _) (by simpa using VQ.set 2 (.slice A5 (nL + 1) c5)) (((Only.of_below hB19 (· = q) (fun j h1 h2 => by omega)).setCell (p := ⟨q, 2, none⟩) (.inl rfl) _))
        · go_simp
          refine hK _ _ ?_
          clear hK K
          refine name_any ?_
          intro w21 hw21
          have hB21 : Below X.heap.size X w21 := by rw [hw21]; exact b_alloc hB1 _
          have V821 : Vr w21 w1.heap.size 66 OC := by rw [hw21, hOC]; exact Vr.new w1 _ _
          have VE21 : Vr w21 w0.heap.size 66 #[] := by rw [hw21]; exact VE1.alloc _
          clear hw21
          have cq21 := cell_keep hB21 hq2
          have ci210 := cell_keep hB21 hi0
          have ci211 := cell_keep hB21 hi1
          have ci212 := cell_keep hB21 hi2
          refine wpAny_ready (rs := [3]) (by kernel_rfl) (by simp) ?_
          refine AllReady.cons (o := _) rfl (fun K hK => ?_) AllReady.nil
          · refine step_app _ rfl (.tmp 53) (.tmp 55) slOnes rfl rfl (own_shut (sz := 5) (N := 0) (xs := []) hge1 VE21 (by simp) (by simp) (Nat.le_refl _) (by simp [maxLen]) (by simp)) rfl (rd.below hB21 (Nat.le_refl _)) (onesC_cell L) nL (Nat.zero_add _) (by unfold maxLen; omega) (by omega) hB21.size ?_
            intro A3 c3 w22 g1 g2 g3 g4 g5
            have hB22 := below_app hB21 (own_shut (sz := 5) (N := 0) (xs := []) hge1 VE21 (by simp) (by simp) (Nat.le_refl _) (by simp [maxLen]) (by simp)) g4 (Nat.le_refl _) hB21.size
            have O322 : w22.ownsRow X.heap.size 66 5 (.slice A3 nL c3) nL (onesC L) := by simpa using g3
            have V822 := vr_app_ne VE21 V821 hOCn g4
            clear g1 g2 g3 g4 g5
            refine hK _ _ ?_
            clear hK K
            have cq22 := cell_keep hB22 hq2
            have ci220 := cell_keep hB22 hi0
            have ci221 := cell_keep hB22 hi1
            have ci222 := cell_keep hB22 hi2
            refine wpAny_ready (rs := [9]) (by kernel_rfl) (by simp) ?_
            refine AllReady.cons (o := _) rfl (fun K hK => ?_) AllReady.nil
            · refine step_app _ rfl (.tmp 56) (.tmp 61) slOnes rfl rfl O322 rfl (rd_vr V822 (m := 1) (sz := 5) hOCs) hOCc (nL + 1) rfl (by unfold maxLen; omega) (by omega) hB22.size ?_
              intro A5 c5 w23 g1 g2 g3 g4 g5
              have hB23 := below_app hB22 O322 g4 (Nat.le_refl _) hB22.size
              have O9 : w23.ownsRow X.heap.size 66 5 (.slice A5 (nL + 1) c5) (nL + 1) (onesC (L ++ [(player, tick, (x, y, z))])) := by rw [hOL]; exact g3
              clear g1 g2 g3 g4 g5
              refine hK _ _ ?_
              clear hK K
              have cq23 := cell_keep hB23 hq2
              have ci230 := cell_keep hB23 hi0
              have ci231 := cell_keep hB23 hi1
              have ci232 := cell_keep hB23 hi2
              refine take_at (i := 10) (some 63) (v := ?vo24) rfl rfl (by kernel_rfl) (by kernel_rfl) (by kernel_rfl) (fun _ _ _ h => h) (Or.inl ⟨by rfl, ?ho24⟩) ?ro24
              case ho24 => (intro w0; go_simp; try with_reducible rfl)
              simp only [Act.put, List.setIfInBounds_toArray]
              refine wpAny_ready (rs := [11]) (by kernel_rfl) (by simp) ?_
              refine AllReady.cons (o := _) rfl (fun K hK => ?_) AllReady.nil
              · have VQ := HQ.keep hB23 HQ.lt
                obtain ⟨vq1, vq2, vq3⟩ := VQ.facts
                go_simp
                refine hK _ _ ?_
                clear hK K
                refine wpAny_done (by kernel_rfl) ?_ _
                exact HJ.out A5 c5 _ _ _ _ _ _ _ _ _ _ _ _ (own_cell O9 (q := ⟨q, 2, none⟩) (by intro e; have := (O9.lt q e.symm).1; omega) _) (by simpa using VQ.set 2 (.slice A5 (nL + 1) c5)) (((Only.of_below hB23 (· = q) (fun j h1 h2 => by omega)).setCell (p := ⟨q, 2, none⟩) (.inl rfl) _))
      · go_simp
        refine hK _ _ ?_
        clear hK K
        refine name_any ?_
        intro w25 hw25
        have hB25 : Below X.heap.size X w25 := by rw [hw25]; exact b_alloc hB1 _
        have V825 : Vr w25 w1.heap.size 66 OC := by rw [hw25, hOC]; exact Vr.new w1 _ _
        have VE25 : Vr w25 w0.heap.size 66 #[] := by rw [hw25]; exact VE1.alloc _
        clear hw25
        have cq25 := cell_keep hB25 hq2
        have ci250 := cell_keep hB25 hi0
        have ci251 := cell_keep hB25 hi1
        have ci252 := cell_keep hB25 hi2
        refine wpAny_ready (rs := [2]) (by kernel_rfl) (by simp) ?_
        refine AllReady.cons (o := _) rfl (fun K hK => ?_) AllReady.nil
        · go_simp
          refine hK _ _ ?_
          clear hK K
          refine wpAny_ready (rs := [3]) (by kernel_rfl) (by simp) ?_
          refine AllReady.cons (o := _) rfl (fun K hK => ?_) AllReady.nil
          · refine step_app _ rfl (.tmp 53) (.tmp 55) slOnes rfl rfl (own_shut (sz := 5) (N := 0) (xs := []) hge1 VE25 (by simp) (by simp) (Nat.le_refl _) (by simp [maxLen]) (by simp)) rfl (rd.below hB25 (Nat.le_refl _)) (onesC_cell L) nL (Nat.zero_add _) (by unfold maxLen; omega) (by omega) hB25.size ?_
            intro A3 c3 w26 g1 g2 g3 g4 g5
            have hB26 := below_app hB25 (own_shut (sz := 5) (N := 0) (xs := []) hge1 VE25 (by simp) (by simp) (Nat.le_refl _) (by simp [maxLen]) (by simp)) g4 (Nat.le_refl _) hB25.size
            have O326 : w26.ownsRow X.heap.size 66 5 (.slice A3 nL c3) nL (onesC L) := by simpa using g3
            have V826 := vr_app_ne VE25 V825 hOCn g4
            clear g1 g2 g3 g4 g5
            refine hK _ _ ?_
            clear hK K
            have cq26 := cell_keep hB26 hq2
            have ci260 := cell_keep hB26 hi0
            have ci261 := cell_keep hB26 hi1
            have ci262 := cell_keep hB26 hi2
            refine wpAny_ready (rs := [9]) (by kernel_rfl) (by simp) ?_
            refine AllReady.cons (o := _) rfl (fun K hK => ?_) AllReady.nil
            · refine step_app _ rfl (.tmp 56) (.tmp 61) slOnes rfl rfl O326 rfl (rd_vr V826 (m := 1) (sz := 5) hOCs) hOCc (nL + 1) rfl (by unfold maxLen; omega) (by omega) hB26.size ?_
              intro A5 c5 w27 g1 g2 g3 g4 g5
              have hB27 := below_app hB26 O326 g4 (Nat.le_refl _) hB26.size
              have O9 : w27.ownsRow X.heap.size 66 5 (.slice A5 (nL + 1) c5) (nL + 1) (onesC (L ++ [(player, tick, (x, y, z))])) := by rw [hOL]; exact g3
              clear g1 g2 g3 g4 g5
              refine hK _ _ ?_
              clear hK K
              have cq27 := cell_keep hB27 hq2
              have ci270 := cell_keep hB27 hi0
              have ci271 := cell_keep hB27 hi1
              have ci272 := cell_keep hB27 hi2
              refine take_at (i := 10) (some 63) (v := ?vo28) rfl rfl (by kernel_rfl) (by kernel_rfl) (by kernel_rfl) (fun _ _ _ h => h) (Or.inl ⟨by rfl, ?ho28⟩) ?ro28
              case ho28 => (intro w0; go_simp; try with_reducible rfl)
              simp only [Act.put, List.setIfInBounds_toArray]
              refine wpAny_ready (rs := [11]) (by kernel_rfl) (by simp) ?_
              refine AllReady.cons (o := _) rfl (fun K hK => ?_) AllReady.nil
              · have VQ := HQ.keep hB27 HQ.lt
                obtain ⟨vq1, vq2, vq3⟩ := VQ.facts
                go_simp
                refine hK _ _ ?_
                clear hK K
                refine wpAny_done (by kernel_rfl) ?_ _
                exact HJ.out A5 c5 _ _ _ _ _ _ _ _ _ _ _ _ (own_cell O9 (q := ⟨q, 2, none⟩) (by intro e; have := (O9.lt q e.symm).1; omega) _) (by simpa using VQ.set 2 (.slice A5 (nL + 1) c5)) (((Only.of_below hB27 (· = q) (fun j h1 h2 => by omega)).setCell (p := ⟨q, 2, none⟩) (.inl rfl) _))
  · go_simp
    refine hK _ _ ?_
    clear hK K
    refine wpAny_ready (rs := [0, 6]) (by kernel_rfl) (by simp) ?_
    refine AllReady.cons (o := _) rfl (fun K hK => ?_) (AllReady.cons (o := _) rfl (fun K hK => ?_) AllReady.nil)
    · go_simp
      refine hK _ _ ?_
      clear hK K
      refine name_any ?_
      intro w29 hw29
      have hB29 : Below X.heap.size X w29 := by rw [hw29]; exact b_alloc hB0 _
      have VE29 : Vr w29 w0.heap.size 66 #[] := by rw [hw29]; exact Vr.new w0 _ _
      have hge29 : X.heap.size ≤ w0.heap.size := hB0.size
      clear hw29
      have cq29 := cell_keep hB29 hq2
      have ci290 := cell_keep hB29 hi0
      have ci291 := cell_keep hB29 hi1
      have ci292 := cell_keep hB29 hi2
      refine wpAny_ready (rs := [3, 6]) (by kernel_rfl) (by simp) ?_
      refine AllReady.cons (o := _) rfl (fun K hK => ?_) (AllReady.cons (o := _) rfl (fun K hK => ?_) AllReady.nil)
      · refine step_app _ rfl (.tmp 53) (.tmp 55) slOnes rfl rfl (own_shut (sz := 5) (N := 0) (xs := []) hge29 VE29 (by simp) (by simp) (Nat.le_refl _) (by simp [maxLen]) (by simp)) rfl (rd.below hB29 (Nat.le_refl _)) (onesC_cell L) nL (Nat.zero_add _) (by unfold maxLen; omega) (by omega) hB29.size ?_
        intro A3 c3 w30 g1 g2 g3 g4 g5
        have hB30 := below_app hB29 (own_shut (sz := 5) (N := 0) (xs := []) hge29 VE29 (by simp) (by simp) (Nat.le_refl _) (by simp [maxLen]) (by simp)) g4 (Nat.le_refl _) hB29.size
        have O330 : w30.ownsRow X.heap.size 66 5 (.slice A3 nL c3) nL (onesC L) := by simpa using g3
        clear g1 g2 g3 g4 g5
        refine hK _ _ ?_
        clear hK K
        have cq30 := cell_keep hB30 hq2
        have ci300 := cell_keep hB30 hi0
        have ci301 := cell_keep hB30 hi1
        have ci302 := cell_keep hB30 hi2
        refine wpAny_ready (rs := [6]) (by kernel_rfl) (by simp) ?_
        refine AllReady.cons (o := _) rfl (fun K hK => ?_) AllReady.nil
        · go_simp
          refine hK _ _ ?_
          clear hK K
          refine take_at (i := 7) (some 60) (v := ?vo31) rfl rfl (by kernel_rfl) (by kernel_rfl) (by kernel_rfl) (fun _ _ _ h => h) (Or.inl ⟨by rfl, ?ho31⟩) ?ro31
          case ho31 => (intro w0; go_simp; try with_reducible rfl)
          simp only [Act.put, List.setIfInBounds_toArray, List.set_cons_zero, List.set_cons_succ]
          refine wpAny_ready (rs := [8]) (by kernel_rfl) (by simp) ?_
          refine AllReady.cons (o := _) rfl (fun K hK => ?_) AllReady.nil
          · go_simp
            refine hK _ _ ?_
            clear hK K
            refine name_any ?_
            intro w32 hw32
            have hB32 : Below X.heap.size X w32 := by rw [hw32]; exact b_alloc hB30 _
            have V832 : Vr w32 w30.heap.size 66 OC := by rw [hw32, hOC]; exact Vr.new w30 _ _
            have O332 := O330.alloc (.cells OC 66)
            rw [hOC, ← hw32] at O332
            clear hw32
            have cq32 := cell_keep hB32 hq2
            have ci320 := cell_keep hB32 hi0
            have ci321 := cell_keep hB32 hi1
            have ci322 := cell_keep hB32 hi2
            refine wpAny_ready (rs := [9]) (by kernel_rfl) (by simp) ?_
            refine AllReady.cons (o := _) rfl (fun K hK => ?_) AllReady.nil
            · refine step_app _ rfl (.tmp 56) (.tmp 61) slOnes rfl rfl O332 rfl (rd_vr V832 (m := 1) (sz := 5) hOCs) hOCc (nL + 1) rfl (by unfold maxLen; omega) (by omega) hB32.size ?_
              intro A5 c5 w33 g1 g2 g3 g4 g5
              have hB33 := below_app hB32 O332 g4 (Nat.le_refl _) hB32.size
              have O9 : w33.ownsRow X.heap.size 66 5 (.slice A5 (nL + 1) c5) (nL + 1) (onesC (L ++ [(player, tick, (x, y, z))])) := by rw [hOL]; exact g3
              clear g1 g2 g3 g4 g5
              refine hK _ _ ?_
              clear hK K
              have cq33 := cell_keep hB33 hq2
              have ci330 := cell_keep hB33 hi0
              have ci331 := cell_keep hB33 hi1
              have ci332 := cell_keep hB33 hi2
              refine take_at (i := 10) (some 63) (v := ?vo34) rfl rfl (by kernel_rfl) (by kernel_rfl) (by kernel_rfl) (fun _ _ _ h => h) (Or.inl ⟨by rfl, ?ho34⟩) ?ro34
              case ho34 => (intro w0; go_simp; try with_reducible rfl)
              simp only [Act.put, List.setIfInBounds_toArray]
              refine wpAny_ready (rs := [11]) (by kernel_rfl) (by simp) ?_
              refine AllReady.cons (o := _) rfl (fun K hK => ?_) AllReady.nil
              · have VQ := HQ.keep hB33 HQ.lt
                obtain ⟨vq1, vq2, vq3⟩ := VQ.facts
                go_simp
                refine hK _ _ ?_
                clear hK K
                refine wpAny_done (by kernel_rfl) ?_ _
                exact HJ.out A5 c5 _ _ _ _ _ _ _ _ _ _ _ _ (own_cell O9 (q := ⟨q, 2, none⟩) (by intro e; have := (O9.lt q e.symm).1; omega) _) (by simpa using VQ.set 2 (.slice A5 (nL + 1) c5)) (((Only.of_below hB33 (· = q) (fun j h1 h2 => by omega)).setCell (p := ⟨q, 2, none⟩) (.inl rfl) _))
      · go_simp
        refine hK _ _ ?_
        clear hK K
        refine take_at (i := 7) (some 60) (v := ?vo35) rfl rfl (by kernel_rfl) (by kernel_rfl) (by kernel_rfl) (fun _ _ _ h => h) (Or.inl ⟨by rfl, ?ho35⟩) ?ro35
        case ho35 => (intro w0; go_simp; try with_reducible rfl)
        simp only [Act.put, List.setIfInBounds_toArray, List.set_cons_zero, List.set_cons_succ]
        refine wpAny_ready (rs := [3, 8]) (by kernel_rfl) (by simp) ?_
        refine AllReady.cons (o := _) rfl (fun K hK => ?_) (AllReady.cons (o := _) rfl (fun K hK => ?_) AllReady.nil)
        · refine step_app _ rfl (.tmp 53) (.tmp 55) slOnes rfl rfl (own_shut (sz := 5) (N := 0) (xs := []) hge29 VE29 (by simp) (by simp) (Nat.le_refl _) (by simp [maxLen]) (by simp)) rfl (rd.below hB29 (Nat.le_refl _)) (onesC_cell L) nL (Nat.zero_add _) (by unfold maxLen; omega) (by omega) hB29.size ?_
          intro A3 c3 w36 g1 g2 g3 g4 g5
          have hB36 := below_app hB29 (own_shut (sz := 5) (N := 0) (xs := []) hge29 VE29 (by simp) (by simp) (Nat.le_refl _) (by simp [maxLen]) (by simp)) g4 (Nat.le_refl _) hB29.size
          have O336 : w36.ownsRow X.heap.size 66 5 (.slice A3 nL c3) nL (onesC L) := by simpa using g3
          clear g1 g2 g3 g4 g5
          refine hK _ _ ?_
          clear hK K
          have cq36 := cell_keep hB36 hq2
          have ci360 := cell_keep hB36 hi0
          have ci361 := cell_keep hB36 hi1
          have ci362 := cell_keep hB36 hi2
          refine wpAny_ready (rs := [8]) (by kernel_rfl) (by simp) ?_
          refine AllReady.cons (o := _) rfl (fun K hK => ?_) AllReady.nil
          · go_simp
            refine hK _ _ ?_
            clear hK K
            refine name_any ?_
            intro w37 hw37
            have hB37 : Below X.heap.size X w37 := by rw [hw37]; exact b_alloc hB36 _
            have V837 : Vr w37 w36.heap.size 66 OC := by rw [hw37, hOC]; exact Vr.new w36 _ _
            have O337 := O336.alloc (.cells OC 66)
            rw [hOC, ← hw37] at O337
            clear hw37
            have cq37 := cell_keep hB37 hq2
            have ci370 := cell_keep hB37 hi0
            have ci371 := cell_keep hB37 hi1
            have ci372 := cell_keep hB37 hi2
            refine wpAny_ready (rs := [9]) (by kernel_rfl) (by simp) ?_
            refine AllReady.cons (o := _) rfl (fun K hK => ?_) AllReady.nil
            · refine step_app _ rfl (.tmp 56) (.tmp 61) slOnes rfl rfl O337 rfl (rd_vr V837 (m := 1) (sz := 5) hOCs) hOCc (nL + 1) rfl (by unfold maxLen; omega) (by omega) hB37.size ?_
              intro A5 c5 w38 g1 g2 g3 g4 g5
              have hB38 := below_app hB37 O337 g4 (Nat.le_refl _) hB37.size
              have O9 : w38.ownsRow X.heap.size 66 5 (.slice A5 (nL + 1) c5) (nL + 1) (onesC (L ++ [(player, tick, (x, y, z))])) := by rw [hOL]; exact g3
              clear g1 g2 g3 g4 g5
              refine hK _ _ ?_
              clear hK K
              have cq38 := cell_keep hB38 hq2
              have ci380 := cell_keep hB38 hi0
              have ci381 := cell_keep hB38 hi1
              have ci382 := cell_keep hB38 hi2
              refine take_at (i := 10) (some 63) (v := ?vo39) rfl rfl (by kernel_rfl) (by kernel_rfl) (by kernel_rfl) (fun _ _ _ h => h) (Or.inl ⟨by rfl, ?ho39⟩) ?ro39
              case ho39 => (intro w0; go_simp; try with_reducible rfl)
              simp only [Act.put, List.setIfInBounds_toArray]
              refine wpAny_ready (rs := [11]) (by kernel_rfl) (by simp) ?_
              refine AllReady.cons (o := _) rfl (fun K hK => ?_) AllReady.nil
              · have VQ := HQ.keep hB38 HQ.lt
                obtain ⟨vq1, vq2, vq3⟩ := VQ.facts
                go_simp
                refine hK _ _ ?_
                clear hK K
                refine wpAny_done (by kernel_rfl) ?_ _
                exact HJ.out A5 c5 _ _ _ _ _ _ _ _ _ _ _ _ (own_cell O9 (q := ⟨q, 2, none⟩) (by intro e; have := (O9.lt q e.symm).1; omega) _) (by simpa using VQ.set 2 (.slice A5 (nL + 1) c5)) (((Only.of_below hB38 (· = q) (fun j h1 h2 => by omega)).setCell (p := ⟨q, 2, none⟩) (.inl rfl) _))
        · go_simp
          refine hK _ _ ?_
          clear hK K
          refine name_any ?_
          intro w40 hw40
          have hB40 : Below X.heap.size X w40 := by rw [hw40]; exact b_alloc hB29 _
          have V840 : Vr w40 w29.heap.size 66 OC := by rw [hw40, hOC]; exact Vr.new w29 _ _
          have VE40 : Vr w40 w0.heap.size 66 #[] := by rw [hw40]; exact VE29.alloc _
          clear hw40
          have cq40 := cell_keep hB40 hq2
          have ci400 := cell_keep hB40 hi0
          have ci401 := cell_keep hB40 hi1
          have ci402 := cell_keep hB40 hi2
          refine wpAny_ready (rs := [3]) (by kernel_rfl) (by simp) ?_
          refine AllReady.cons (o := _) rfl (fun K hK => ?_) AllReady.nil
          · refine step_app _ rfl (.tmp 53) (.tmp 55) slOnes rfl rfl (own_shut (sz := 5) (N := 0) (xs := []) hge29 VE40 (by simp) (by simp) (Nat.le_refl _) (by simp [maxLen]) (by simp)) rfl (rd.below hB40 (Nat.le_refl _)) (onesC_cell L) nL (Nat.zero_add _) (by unfold maxLen; omega) (by omega) hB40.size ?_
            intro A3 c3 w41 g1 g2 g3 g4 g5
            have hB41 := below_app hB40 (own_shut (sz := 5) (N := 0) (xs := []) hge29 VE40 (by simp) (by simp) (Nat.le_refl _) (by simp [maxLen]) (by simp)) g4 (Nat.le_refl _) hB40.size
            have O341 : w41.ownsRow X.heap.size 66 5 (.slice A3 nL c3) nL (onesC L) := by simpa using g3
            have V841 := vr_app_ne VE40 V840 hOCn g4
            clear g1 g2 g3 g4 g5
            refine hK _ _ ?_
            clear hK K
            have cq41 := cell_keep hB41 hq2
            have ci410 := cell_keep hB41 hi0
            have ci411 := cell_keep hB41 hi1
            have ci412 := cell_keep hB41 hi2
            refine wpAny_ready (rs := [9]) (by kernel_rfl) (by simp) ?_
            refine AllReady.cons (o := _) rfl (fun K hK => ?_) AllReady.nil
            · refine step_app _ rfl (.tmp 56) (.tmp 61) slOnes rfl rfl O341 rfl (rd_vr V841 (m := 1) (sz := 5) hOCs) hOCc (nL + 1) rfl (by unfold maxLen; omega) (by omega) hB41.size ?_
              intro A5 c5 w42 g1 g2 g3 g4 g5
              have hB42 := below_app hB41 O341 g4 (Nat.le_refl _) hB41.size
              have O9 : w42.ownsRow X.heap.size 66 5 (.slice A5 (nL + 1) c5) (nL + 1) (onesC (L ++ [(player, tick, (x, y, z))])) := by rw [hOL]; exact g3
              clear g1 g2 g3 g4 g5
              refine hK _ _ ?_
              clear hK K
              have cq42 := cell_keep hB42 hq2
              have ci420 := cell_keep hB42 hi0
              have ci421 := cell_keep hB42 hi1
              have ci422 := cell_keep hB42 hi2
              refine take_at (i := 10) (some 63) (v := ?vo43) rfl rfl (by kernel_rfl) (by kernel_rfl) (by kernel_rfl) (fun _ _ _ h => h) (Or.inl ⟨by rfl, ?ho43⟩) ?ro43
              case ho43 => (intro w0; go_simp; try with_reducible rfl)
              simp only [Act.put, List.setIfInBounds_toArray]
              refine wpAny_ready (rs := [11]) (by kernel_rfl) (by simp) ?_
              refine AllReady.cons (o := _) rfl (fun K hK => ?_) AllReady.nil
              · have VQ := HQ.keep hB42 HQ.lt
                obtain ⟨vq1, vq2, vq3⟩ := VQ.facts
                go_simp
                refine hK _ _ ?_
                clear hK K
                refine wpAny_done (by kernel_rfl) ?_ _
                exact HJ.out A5 c5 _ _ _ _ _ _ _ _ _ _ _ _ (own_cell O9 (q := ⟨q, 2, none⟩) (by intro e; have := (O9.lt q e.symm).1; omega) _) (by simpa using VQ.set 2 (.slice A5 (nL + 1) c5)) (((Only.of_below hB42 (· = q) (fun j h1 h2 => by omega)).setCell (p := ⟨q, 2, none⟩) (.inl rfl) _))
    · go_simp
      refine hK _ _ ?_
      clear hK K
      refine take_at (i := 7) (some 60) (v := ?vo44) rfl rfl (by kernel_rfl) (by kernel_rfl) (by kernel_rfl) (fun _ _ _ h => h) (Or.inl ⟨by rfl, ?ho44⟩) ?ro44
      case ho44 => (intro w0; go_simp; try with_reducible rfl)
      simp only [Act.put, List.setIfInBounds_toArray, List.set_cons_zero, List.set_cons_succ]
      refine wpAny_ready (rs := [0, 8]) (by kernel_rfl) (by simp) ?_
      refine AllReady.cons (o := _) rfl (fun K hK => ?_) (AllReady.cons (o := _) rfl (fun K hK => ?_) AllReady.nil)
      · go_simp
        refine hK _ _ ?_
        clear hK K
        refine name_any ?_
        intro w45 hw45
        have hB45 : Below X.heap.size X w45 := by rw [hw45]; exact b_alloc hB0 _
        have VE45 : Vr w45 w0.heap.size 66 #[] := by rw [hw45]; exact Vr.new w0 _ _
        have hge45 : X.heap.size ≤ w0.heap.size := hB0.size
        clear hw45
        have cq45 := cell_keep hB45 hq2
        have ci450 := cell_keep hB45 hi0
        have ci451 := cell_keep hB45 hi1
        have ci452 := cell_keep hB45 hi2
        refine wpAny_ready (rs := [3, 8]) (by kernel_rfl) (by simp) ?_
        refine AllReady.cons (o := _) rfl (fun K hK => ?_) (AllReady.cons (o := _) rfl (fun K hK => ?_) AllReady.nil)
        · refine step_app _ rfl (.tmp 53) (.tmp 55) slOnes rfl rfl (own_shut (sz := 5) (N := 0) (xs := []) hge45 VE45 (by simp) (by simp) (Nat.le_refl _) (by simp [maxLen]) (by simp)) rfl (rd.below hB45 (Nat.le_refl _)) (onesC_cell L) nL (Nat.zero_add _) (by unfold maxLen; omega) (by omega) hB45.size ?_
          intro A3 c3 w46 g1 g2 g3 g4 g5
          have hB46 := below_app hB45 (own_shut (sz := 5) (N := 0) (xs := []) hge45 VE45 (by simp) (by simp) (Nat.le_refl _) (by simp [maxLen]) (by simp)) g4 (Nat.le_refl _) hB45.size
          have O346 : w46.ownsRow X.heap.size 66 5 (.slice A3 nL c3) nL (onesC L) := by simpa using g3
          clear g1 g2 g3 g4 g5
          refine hK _ _ ?_
          clear hK K
          have cq46 := cell_keep hB46 hq2
          have ci460 := cell_keep hB46 hi0
          have ci461 := cell_keep hB46 hi1
          have ci462 := cell_keep hB46 hi2
          refine wpAny_ready (rs := [8]) (by kernel_rfl) (by simp) ?_
          refine AllReady.cons (o := _) rfl (fun K hK => ?_) AllReady.nil
          · go_simp
            refine hK _ _ ?_
            clear hK K
            refine name_any ?_
            intro w47 hw47
            have hB47 : Below X.heap.size X w47 := by rw [hw47]; exact b_alloc hB46 _
            have V847 : Vr w47 w46.heap.size 66 OC := by rw [hw47, hOC]; exact Vr.new w46 _ _
            have O347 := O346.alloc (.cells OC 66)
            rw [hOC, ← hw47] at O347
            clear hw47
            have cq47 := cell_keep hB47 hq2
            have ci470 := cell_keep hB47 hi0
            have ci471 := cell_keep hB47 hi1
            have ci472 := cell_keep hB47 hi2
            refine wpAny_ready (rs := [9]) (by kernel_rfl) (by simp) ?_
            refine AllReady.cons (o := _) rfl (fun K hK => ?_) AllReady.nil
            · refine step_app _ rfl (.tmp 56) (.tmp 61) slOnes rfl rfl O347 rfl (rd_vr V847 (m := 1) (sz := 5) hOCs) hOCc (nL + 1) rfl (by unfold maxLen; omega) (by omega) hB47.size ?_
              intro A5 c5 w48 g1 g2 g3 g4 g5
              have hB48 := below_app hB47 O347 g4 (Nat.le_refl _) hB47.size
              have O9 : w48.ownsRow X.heap.size 66 5 (.slice A5 (nL + 1) c5) (nL + 1) (onesC (L ++ [(player, tick, (x, y, z))])) := by rw [hOL]; exact g3
              clear g1 g2 g3 g4 g5
              refine hK _ _ ?_
              clear hK K
              have cq48 := cell_keep hB48 hq2
              have ci480 := cell_keep hB48 hi0
              have ci481 := cell_keep hB48 hi1
              have ci482 := cell_keep hB48 hi2
              refine take_at (i := 10) (some 63) (v := ?vo49) rfl rfl (by kernel_rfl) (by kernel_rfl) (by kernel_rfl) (fun _ _ _ h => h) (Or.inl ⟨by rfl, ?ho49⟩) ?ro49
              case ho49 => (intro w0; go_simp; try with_reducible rfl)
              simp only [Act.put, List.setIfInBounds_toArray]
              refine wpAny_ready (rs := [11]) (by kernel_rfl) (by simp) ?_
              refine AllReady.cons (o := _) rfl (fun K hK => ?_) AllReady.nil
              · have VQ := HQ.keep hB48 HQ.lt
                obtain ⟨vq1, vq2, vq3⟩ := VQ.facts
                go_simp
                refine hK _ _ ?_
                clear hK K
                refine wpAny_done (by kernel_rfl) ?_ _
                exact HJ.out A5 c5 _ _ _ _ _ _ _ _ _ _ _ _ (own_cell O9 (q := ⟨q, 2, none⟩) (by intro e; have := (O9.lt q e.symm).1; omega) _) (by simpa using VQ.set 2 (.slice A5 (nL + 1) c5)) (((Only.of_below hB48 (· = q) (fun j h1 h2 => by omega)).setCell (p := ⟨q, 2, none⟩) (.inl rfl) _))
        · go_simp
          refine hK _ _ ?_
          clear hK K
          refine name_any ?_
          intro w50 hw50
          have hB50 : Below X.heap.size X w50 := by rw [hw50]; exact b_alloc hB45 _
          have V850 : Vr w50 w45.heap.size 66 OC := by rw [hw50, hOC]; exact Vr.new w45 _ _
          have VE50 : Vr w50 w0.heap.size 66 #[] := by rw [hw50]; exact VE45.alloc _
          clear hw50
          have cq50 := cell_keep hB50 hq2
          have ci500 := cell_keep hB50 hi0
          have ci501 := cell_keep hB50 hi1
          have ci502 := cell_keep hB50 hi2
          refine wpAny_ready (rs := [3]) (by kernel_rfl) (by simp) ?_
          refine AllReady.cons (o := _) rfl (fun K hK => ?_) AllReady.nil
          · refine step_app _ rfl (.tmp 53) (.tmp 55) slOnes rfl rfl (own_shut (sz := 5) (N := 0) (xs := []) hge45 VE50 (by simp) (by simp) (Nat.le_refl _) (by simp [maxLen]) (by simp)) rfl (rd.below hB50 (Nat.le_refl _)) (onesC_cell L) nL (Nat.zero_add _) (by unfold maxLen; omega) (by omega) hB50.size ?_
            intro A3 c3 w51 g1 g2 g3 g4 g5
            have hB51 := below_app hB50 (own_shut (sz := 5) (N := 0) (xs := []) hge45 VE50 (by simp) (by simp) (Nat.le_refl _) (by simp [maxLen]) (by simp)) g4 (Nat.le_refl _) hB50.size
            have O351 : w51.ownsRow X.heap.size 66 5 (.slice A3 nL c3) nL (onesC L) := by simpa using g3
            have V851 := vr_app_ne VE50 V850 hOCn g4
            clear g1 g2 g3 g4 g5
            refine hK _ _ ?_
            clear hK K
            have cq51 := cell_keep hB51 hq2
            have ci510 := cell_keep hB51 hi0
            have ci511 := cell_keep hB51 hi1
            have ci512 := cell_keep hB51 hi2
            refine wpAny_ready (rs := [9]) (by kernel_rfl) (by simp) ?_
            refine AllReady.cons (o := _) rfl (fun K hK => ?_) AllReady.nil
            · refine step_app _ rfl (.tmp 56) (.tmp 61) slOnes rfl rfl O351 rfl (rd_vr V851 (m := 1) (sz := 5) hOCs) hOCc (nL + 1) rfl (by unfold maxLen; omega) (by omega) hB51.size ?_
              intro A5 c5 w52 g1 g2 g3 g4 g5
              have hB52 := below_app hB51 O351 g4 (Nat.le_refl _) hB51.size
              have O9 : w52.ownsRow X.heap.size 66 5 (.slice A5 (nL + 1) c5) (nL + 1) (onesC (L ++ [(player, tick, (x, y, z))])) := by rw [hOL]; exact g3
              clear g1 g2 g3 g4 g5
              refine hK _ _ ?_
              clear hK K
              have cq52 := cell_keep hB52 hq2
              have ci520 := cell_keep hB52 hi0
              have ci521 := cell_keep hB52 hi1
              have ci522 := cell_keep hB52 hi2
              refine take_at (i := 10) (some 63) (v := ?vo53) rfl rfl (by kernel_rfl) (by kernel_rfl) (by kernel_rfl) (fun _ _ _ h => h) (Or.inl ⟨by rfl, ?ho53⟩) ?ro53
              case ho53 => (intro w0; go_simp; try with_reducible rfl)
              simp only [Act.put, List.setIfInBounds_toArray]
              refine wpAny_ready (rs := [11]) (by kernel_rfl) (by simp) ?_
              refine AllReady.cons (o := _) rfl (fun K hK => ?_) AllReady.nil
              · have VQ := HQ.keep hB52 HQ.lt
                obtain ⟨vq1, vq2, vq3⟩ := VQ.facts
                go_simp
                refine hK _ _ ?_
                clear hK K
                refine wpAny_done (by kernel_rfl) ?_ _
                exact HJ.out A5 c5 _ _ _ _ _ _ _ _ _ _ _ _ (own_cell O9 (q := ⟨q, 2, none⟩) (by intro e; have := (O9.lt q e.symm).1; omega) _) (by simpa using VQ.set 2 (.slice A5 (nL + 1) c5)) (((Only.of_below hB52 (· = q) (fun j h1 h2 => by omega)).setCell (p := ⟨q, 2, none⟩) (.inl rfl) _))
      · go_simp
        refine hK _ _ ?_
        clear hK K
        refine name_any ?_
        intro w54 hw54
        have hB54 : Below X.heap.size X w54 := by rw [hw54]; exact b_alloc hB0 _
        have V854 : Vr w54 w0.heap.size 66 OC := by rw [hw54, hOC]; exact Vr.new w0 _ _
        clear hw54
        have cq54 := cell_keep hB54 hq2
        have ci540 := cell_keep hB54 hi0
        have ci541 := cell_keep hB54 hi1
        have ci542 := cell_keep hB54 hi2
        refine wpAny_ready (rs := [0]) (by kernel_rfl) (by simp) ?_
        refine AllReady.cons (o := _) rfl (fun K hK => ?_) AllReady.nil
        · go_simp
          refine hK _ _ ?_
          clear hK K
          refine name_any ?_
          intro w55 hw55
          have hB55 : Below X.heap.size X w55 := by rw [hw55]; exact b_alloc hB54 _
          have VE55 : Vr w55 w54.heap.size 66 #[] := by rw [hw55]; exact Vr.new w54 _ _
          have hge55 : X.heap.size ≤ w54.heap.size := hB54.size
          have V855 : Vr w55 w0.heap.size 66 OC := by rw [hw55]; exact V854.alloc _
          clear hw55
          have cq55 := cell_keep hB55 hq2
          have ci550 := cell_keep hB55 hi0
          have ci551 := cell_keep hB55 hi1
          have ci552 := cell_keep hB55 hi2
          refine wpAny_ready (rs := [3]) (by kernel_rfl) (by simp) ?_
          refine AllReady.cons (o := _) rfl (fun K hK => ?_) AllReady.nil
          · refine step_app _ rfl (.tmp 53) (.tmp 55) slOnes rfl rfl (own_shut (sz := 5) (N := 0) (xs := []) hge55 VE55 (by simp) (by simp) (Nat.le_refl _) (by simp [maxLen]) (by simp)) rfl (rd.below hB55 (Nat.le_refl _)) (onesC_cell L) nL (Nat.zero_add _) (by unfold maxLen; omega) (by omega) hB55.size ?_
            intro A3 c3 w56 g1 g2 g3 g4 g5
            have hB56 := below_app hB55 (own_shut (sz := 5) (N := 0) (xs := []) hge55 VE55 (by simp) (by simp) (Nat.le_refl _) (by simp [maxLen]) (by simp)) g4 (Nat.le_refl _) hB55.size
            have O356 : w56.ownsRow X.heap.size 66 5 (.slice A3 nL c3) nL (onesC L) := by simpa using g3
            have V856 := vr_app_ne VE55 V855 hOCn g4
            clear g1 g2 g3 g4 g5
            refine hK _ _ ?_
            clear hK K
            have cq56 := cell_keep hB56 hq2
            have ci560 := cell_keep hB56 hi0
            have ci561 := cell_keep hB56 hi1
            have ci562 := cell_keep hB56 hi2
            refine wpAny_ready (rs := [9]) (by kernel_rfl) (by simp) ?_
            refine AllReady.cons (o := _) rfl (fun K hK => ?_) AllReady.nil
            · refine step_app _ rfl (.tmp 56) (.tmp 61) slOnes rfl rfl O356 rfl (rd_vr V856 (m := 1) (sz := 5) hOCs) hOCc (nL + 1) rfl (by unfold maxLen; omega) (by omega) hB56.size ?_
              intro A5 c5 w57 g1 g2 g3 g4 g5
              have hB57 := below_app hB56 O356 g4 (Nat.le_refl _) hB56.size
              have O9 : w57.ownsRow X.heap.size 66 5 (.slice A5 (nL + 1) c5) (nL + 1) (onesC (L ++ [(player, tick, (x, y, z))])) := by rw [hOL]; exact g3
              clear g1 g2 g3 g4 g5
              refine hK _ _ ?_
              clear hK K
              have cq57 := cell_keep hB57 hq2
              have ci570 := cell_keep hB57 hi0
              have ci571 := cell_keep hB57 hi1
              have ci572 := cell_keep hB57 hi2
              refine take_at (i := 10) (some 63) (v := ?vo58) rfl rfl (by kernel_rfl) (by kernel_rfl) (by kernel_rfl) (fun _ _ _ h => h) (Or.inl ⟨by rfl, ?ho58⟩) ?ro58
              case ho58 => (intro w0; go_simp; try with_reducible rfl)
              simp only [Act.put, List.setIfInBounds_toArray]
              refine wpAny_ready (rs := [11]) (by kernel_rfl) (by simp) ?_
              refine AllReady.cons (o := _) rfl (fun K hK => ?_) AllReady.nil
              · have VQ := HQ.keep hB57 HQ.lt
                obtain ⟨vq1, vq2, vq3⟩ := VQ.facts
                go_simp
                refine hK _ _ ?_
                clear hK K
                refine wpAny_done (by kernel_rfl) ?_ _
                exact HJ.out A5 c5 _ _ _ _ _ _ _ _ _ _ _ _ (own_cell O9 (q := ⟨q, 2, none⟩) (by intro e; have := (O9.lt q e.symm).1; omega) _) (by simpa using VQ.set 2 (.slice A5 (nL + 1) c5)) (((Only.of_below hB57 (· = q) (fun j h1 h2 => by omega)).setCell (p := ⟨q, 2, none⟩) (.inl rfl) _))
  · go_simp
    refine hK _ _ ?_
    clear hK K
    refine take_at (i := 7) (some 60) (v := ?vo59) rfl rfl (by kernel_rfl) (by kernel_rfl) (by kernel_rfl) (fun _ _ _ h => h) (Or.inl ⟨by rfl, ?ho59⟩) ?ro59
    case ho59 => (intro w0; go_simp; try with_reducible rfl)
    simp only [Act.put, List.setIfInBounds_toArray, List.set_cons_zero, List.set_cons_succ]
    refine wpAny_ready (rs := [0, 2, 8]) (by kernel_rfl) (by simp) ?_
    refine AllReady.cons (o := _) rfl (fun K hK => ?_) (AllReady.cons (o := _) rfl (fun K hK => ?_) (AllReady.cons (o := _) rfl (fun K hK => ?_) AllReady.nil))
    · go_simp
      refine hK _ _ ?_
      clear hK K
      refine name_any ?_
      intro w60 hw60
      have hB60 : Below X.heap.size X w60 := by rw [hw60]; exact b_alloc hB0 _
      have VE60 : Vr w60 w0.heap.size 66 #[] := by rw [hw60]; exact Vr.new w0 _ _
      have hge60 : X.heap.size ≤ w0.heap.size := hB0.size
      clear hw60
      have cq60 := cell_keep hB60 hq2
      have ci600 := cell_keep hB60 hi0
      have ci601 := cell_keep hB60 hi1
      have ci602 := cell_keep hB60 hi2
      refine wpAny_ready (rs := [2, 8]) (by kernel_rfl) (by simp) ?_
      refine AllReady.cons (o := _) rfl (fun K hK => ?_) (AllReady.cons (o := _) rfl (fun K hK => ?_) AllReady.nil)
      · go_simp
        refine hK _ _ ?_
        clear hK K
        refine wpAny_ready (rs := [3, 8]) (by kernel_rfl) (by simp) ?_
        refine AllReady.cons (o := _) rfl (fun K hK => ?_) (AllReady.cons (o := _) rfl (fun K hK => ?_) AllReady.nil)
        · refine step_app _ rfl (.tmp 53) (.tmp 55) slOnes rfl rfl (own_shut (sz := 5) (N := 0) (xs := []) hge60 VE60 (by simp) (by simp) (Nat.le_refl _) (by simp [maxLen]) (by simp)) rfl (rd.below hB60 (Nat.le_refl _)) (onesC_cell L) nL (Nat.zero_add _) (by unfold maxLen; omega) (by omega) hB60.size ?_
          intro A3 c3 w61 g1 g2 g3 g4 g5
          have hB61 := below_app hB60 (own_shut (sz := 5) (N := 0) (xs := []) hge60 VE60 (by simp) (by simp) (Nat.le_refl _) (by simp [maxLen]) (by simp)) g4 (Nat.le_refl _) hB60.size
          have O361 : w61.ownsRow X.heap.size 66 5 (.slice A3 nL c3) nL (onesC L) := by simpa using g3
          clear g1 g2 g3 g4 g5
          refine hK _ _ ?_
          clear hK K
          have cq61 := cell_keep hB61 hq2
          have ci610 := cell_keep hB61 hi0
          have ci611 := cell_keep hB61 hi1
          have ci612 := cell_keep hB61 hi2
          refine wpAny_ready (rs := [8]) (by kernel_rfl) (by simp) ?_
          refine AllReady.cons (o := _) rfl (fun K hK => ?_) AllReady.nil
          · go_simp
            refine hK _ _ ?_
            clear hK K
            refine name_any ?_
            intro w62 hw62
            have hB62 : Below X.heap.size X w62 := by rw [hw62]; exact b_alloc hB61 _
            have V862 : Vr w62 w61.heap.size 66 OC := by rw [hw62, hOC]; exact Vr.new w61 _ _
            have O362 := O361.alloc (.cells OC 66)
            rw [hOC, ← hw62] at O362
            clear hw62
            have cq62 := cell_keep hB62 hq2
            have ci620 := cell_keep hB62 hi0
            have ci621 := cell_keep hB62 hi1
            have ci622 := cell_keep hB62 hi2
            refine wpAny_ready (rs := [9]) (by kernel_rfl) (by simp) ?_
            refine AllReady.cons (o := _) rfl (fun K hK => ?_) AllReady.nil
            · refine step_app _ rfl (.tmp 56) (.tmp 61) slOnes rfl rfl O362 rfl (rd_vr V862 (m := 1) (sz := 5) hOCs) hOCc (nL + 1) rfl (by unfold maxLen; omega) (by omega) hB62.size ?_
              intro A5 c5 w63 g1 g2 g3 g4 g5
              have hB63 := below_app hB62 O362 g4 (Nat.le_refl _) hB62.size
              have O9 : w63.ownsRow X.heap.size 66 5 (.slice A5 (nL + 1) c5) (nL + 1) (onesC (L ++ [(player, tick, (x, y, z))])) := by rw [hOL]; exact g3
              clear g1 g2 g3 g4 g5
              refine hK _ _ ?_
              clear hK K
              have cq63 := cell_keep hB63 hq2
              have ci630 := cell_keep hB63 hi0
              have ci631 := cell_keep hB63 hi1
              have ci632 := cell_keep hB63 hi2
              refine take_at (i := 10) (some 63) (v := ?vo64) rfl rfl (by kernel_rfl) (by kernel_rfl) (by kernel_rfl) (fun _ _ _ h => h) (Or.inl ⟨by rfl, ?ho64⟩) ?ro64
              case ho64 => (intro w0; go_simp; try with_reducible rfl)
              simp only [Act.put, List.setIfInBounds_toArray]
              refine wpAny_ready (rs := [11]) (by kernel_rfl) (by simp) ?_
              refine AllReady.cons (o := _) rfl (fun K hK => ?_) AllReady.nil
              · have VQ := HQ.keep hB63 HQ.lt
                obtain ⟨vq1, vq2, vq3⟩ := VQ.facts
                go_simp
                refine hK _ _ ?_
                clear hK K
                refine wpAny_done (by kernel_rfl) ?_ _
                exact HJ.out A5 c5 _ _ _ _ _ _ _ _ _ _ _ _ (own_cell O9 (q := ⟨q, 2, none⟩) (by intro e; have := (O9.lt q e.symm).1; omega) _) (by simpa using VQ.set 2 (.slice A5 (nL + 1) c5)) (((Only.of_below hB63 (· = q) (fun j h1 h2 => by omega)).setCell (p := ⟨q, 2, none⟩) (.inl rfl) _))
        · go_simp
          refine hK _ _ ?_
          clear hK K
          refine name_any ?_
          intro w65 hw65
          have hB65 : Below X.heap.size X w65 := by rw [hw65]; exact b_alloc hB60 _
          have V865 : Vr w65 w60.heap.size 66 OC := by rw [hw65, hOC]; exact Vr.new w60 _ _
          have VE65 : Vr w65 w0.heap.size 66 #[] := by rw [hw65]; exact VE60.alloc _
          clear hw65
          have cq65 := cell_keep hB65 hq2
          have ci650 := cell_keep hB65 hi0
          have ci651 := cell_keep hB65 hi1
          have ci652 := cell_keep hB65 hi2
          refine wpAny_ready (rs := [3]) (by kernel_rfl) (by simp) ?_
          refine AllReady.cons (o := _) rfl (fun K hK => ?_) AllReady.nil
          · refine step_app _ rfl (.tmp 53) (.tmp 55) slOnes rfl rfl (own_shut (sz := 5) (N := 0) (xs := []) hge60 VE65 (by simp) (by simp) (Nat.le_refl _) (by simp [maxLen]) (by simp)) rfl (rd.below hB65 (Nat.le_refl _)) (onesC_cell L) nL (Nat.zero_add _) (by unfold maxLen; omega) (by omega) hB65.size ?_
            intro A3 c3 w66 g1 g2 g3 g4 g5
            have hB66 := below_app hB65 (own_shut (sz := 5) (N := 0) (xs := []) hge60 VE65 (by simp) (by simp) (Nat.le_refl _) (by simp [maxLen]) (by simp)) g4 (Nat.le_refl _) hB65.size
            have O366 : w66.ownsRow X.heap.size 66 5 (.slice A3 nL c3) nL (onesC L) := by simpa using g3
            have V866 := vr_app_ne VE65 V865 hOCn g4
            clear g1 g2 g3 g4 g5
            refine hK _ _ ?_
            clear hK K
            have cq66 := cell_keep hB66 hq2
            have ci660 := cell_keep hB66 hi0
            have ci661 := cell_keep hB66 hi1
            have ci662 := cell_keep hB66 hi2
            refine wpAny_ready (rs := [9]) (by kernel_rfl) (by simp) ?_
            refine AllReady.cons (o := _) rfl (fun K hK => ?_) AllReady.nil
            · refine step_app _ rfl (.tmp 56) (.tmp 61) slOnes rfl rfl O366 rfl (rd_vr V866 (m := 1) (sz := 5) hOCs) hOCc (nL + 1) rfl (by unfold maxLen; omega) (by omega) hB66.size ?_
              intro A5 c5 w67 g1 g2 g3 g4 g5
              have hB67 := below_app hB66 O366 g4 (Nat.le_refl _) hB66.size
              have O9 : w67.ownsRow X.heap.size 66 5 (.slice A5 (nL + 1) c5) (nL + 1) (onesC (L ++ [(player, tick, (x, y, z))])) := by rw [hOL]; exact g3
              clear g1 g2 g3 g4 g5
              refine hK _ _ ?_
              clear hK K
              have cq67 := cell_keep hB67 hq2
              have ci670 := cell_keep hB67 hi0
              have ci671 := cell_keep hB67 hi1
              have ci672 := cell_keep hB67 hi2
              refine take_at (i := 10) (some 63) (v := ?vo68) rfl rfl (by kernel_rfl) (by kernel_rfl) (by kernel_rfl) (fun _ _ _ h => h) (Or.inl ⟨by rfl, ?ho68⟩) ?ro68
              case ho68 => (intro w0; go_simp; try with_reducible rfl)
              simp only [Act.put, List.setIfInBounds_toArray]
              refine wpAny_ready (rs := [11]) (by kernel_rfl) (by simp) ?_
              refine AllReady.cons (o := _) rfl (fun K hK => ?_) AllReady.nil
              · have VQ := HQ.keep hB67 HQ.lt
                obtain ⟨vq1, vq2, vq3⟩ := VQ.facts
                go_simp
                refine hK _ _ ?_
                clear hK K
                refine wpAny_done (by kernel_rfl) ?_ _
                exact HJ.out A5 c5 _ _ _ _ _ _ _ _ _ _ _ _ (own_cell O9 (q := ⟨q, 2, none⟩) (by intro e; have := (O9.lt q e.symm).1; omega) _) (by simpa using VQ.set 2 (.slice A5 (nL + 1) c5)) (((Only.of_below hB67 (· = q) (fun j h1 h2 => by omega)).setCell (p := ⟨q, 2, none⟩) (.inl rfl) _))
      · go_simp
        refine hK _ _ ?_
        clear hK K
        refine name_any ?_
        intro w69 hw69
        have hB69 : Below X.heap.size X w69 := by rw [hw69]; exact b_alloc hB60 _
        have V869 : Vr w69 w60.heap.size 66 OC := by rw [hw69, hOC]; exact Vr.new w60 _ _
        have VE69 : Vr w69 w0.heap.size 66 #[] := by rw [hw69]; exact VE60.alloc _
        clear hw69
        have cq69 := cell_keep hB69 hq2
        have ci690 := cell_keep hB69 hi0
        have ci691 := cell_keep hB69 hi1
        have ci692 := cell_keep hB69 hi2
        refine wpAny_ready (rs := [2]) (by kernel_rfl) (by simp) ?_
        refine AllReady.cons (o := _) rfl (fun K hK => ?_) AllReady.nil
        · go_simp
          refine hK _ _ ?_
          clear hK K
          refine wpAny_ready (rs := [3]) (by kernel_rfl) (by simp) ?_
          refine AllReady.cons (o := _) rfl (fun K hK => ?_) AllReady.nil
          · refine step_app _ rfl (.tmp 53) (.tmp 55) slOnes rfl rfl (own_shut (sz := 5) (N := 0) (xs := []) hge60 VE69 (by simp) (by simp) (Nat.le_refl _) (by simp [maxLen]) (by simp)) rfl (rd.below hB69 (Nat.le_refl _)) (onesC_cell L) nL (Nat.zero_add _) (by unfold maxLen; omega) (by omega) hB69.size ?_
            intro A3 c3 w70 g1 g2 g3 g4 g5
            have hB70 := below_app hB69 (own_shut (sz := 5) (N := 0) (xs := []) hge60 VE69 (by simp) (by simp) (Nat.le_refl _) (by simp [maxLen]) (by simp)) g4 (Nat.le_refl _) hB69.size
            have O370 : w70.ownsRow X.heap.size 66 5 (.slice A3 nL c3) nL (onesC L) := by simpa using g3
            have V870 := vr_app_ne VE69 V869 hOCn g4
            clear g1 g2 g3 g4 g5
            refine hK _ _ ?_
            clear hK K
            have cq70 := cell_keep hB70 hq2
            have ci700 := cell_keep hB70 hi0
            have ci701 := cell_keep hB70 hi1
            have ci702 := cell_keep hB70 hi2
            refine wpAny_ready (rs := [9]) (by kernel_rfl) (by simp) ?_
            refine AllReady.cons (o := _) rfl (fun K hK => ?_) AllReady.nil
            · refine step_app _ rfl (.tmp 56) (.tmp 61) slOnes rfl rfl O370 rfl (rd_vr V870 (m := 1) (sz := 5) hOCs) hOCc (nL + 1) rfl (by unfold maxLen; omega) (by omega) hB70.size ?_
              intro A5 c5 w71 g1 g2 g3 g4 g5
              have hB71 := below_app hB70 O370 g4 (Nat.le_refl _) hB70.size
              have O9 : w71.ownsRow X.heap.size 66 5 (.slice A5 (nL + 1) c5) (nL + 1) (onesC (L ++ [(player, tick, (x, y, z))])) := by rw [hOL]; exact g3
              clear g1 g2 g3 g4 g5
              refine hK _ _ ?_
              clear hK K
              have cq71 := cell_keep hB71 hq2
              have ci710 := cell_keep hB71 hi0
              have ci711 := cell_keep hB71 hi1
              have ci712 := cell_keep hB71 hi2
              refine take_at (i := 10) (some 63) (v := ?vo72) rfl rfl (by kernel_rfl) (by kernel_rfl) (by kernel_rfl) (fun _ _ _ h => h) (Or.inl ⟨by rfl, ?ho72⟩) ?ro72
              case ho72 => (intro w0; go_simp; try with_reducible rfl)
              simp only [Act.put, List.setIfInBounds_toArray]
              refine wpAny_ready (rs := [11]) (by kernel_rfl) (by simp) ?_
              refine AllReady.cons (o := _) rfl (fun K hK => ?_) AllReady.nil
              · have VQ := HQ.keep hB71 HQ.lt
                obtain ⟨vq1, vq2, vq3⟩ := VQ.facts
                go_simp
                refine hK _ _ ?_
                clear hK K
                refine wpAny_done (by kernel_rfl) ?_ _
                exact HJ.out A5 c5 _ _ _ _ _ _ _ _ _ _ _ _ (own_cell O9 (q := ⟨q, 2, none⟩) (by intro e; have := (O9.lt q e.symm).1; omega) _) (by simpa using VQ.set 2 (.slice A5 (nL + 1) c5)) (((Only.of_below hB71 (· = q) (fun j h1 h2 => by omega)).setCell (p := ⟨q, 2, none⟩) (.inl rfl) _))
    · go_simp
      refine hK _ _ ?_
      clear hK K
      refine wpAny_ready (rs := [0, 8]) (by kernel_rfl) (by simp) ?_
      refine AllReady.cons (o := _) rfl (fun K hK => ?_) (AllReady.cons (o := _) rfl (fun K hK => ?_) AllReady.nil)
      · go_simp
        refine hK _ _ ?_
        clear hK K
        refine name_any ?_
        intro w73 hw73
        have hB73 : Below X.heap.size X w73 := by rw [hw73]; exact b_alloc hB0 _
        have VE73 : Vr w73 w0.heap.size 66 #[] := by rw [hw73]; exact Vr.new w0 _ _
        have hge73 : X.heap.size ≤ w0.heap.size := hB0.size
        clear hw73
        have cq73 := cell_keep hB73 hq2
        have ci730 := cell_keep hB73 hi0
        have ci731 := cell_keep hB73 hi1
        have ci732 := cell_keep hB73 hi2
        refine wpAny_ready (rs := [3, 8]) (by kernel_rfl) (by simp) ?_
        refine AllReady.cons (o := _) rfl (fun K hK => ?_) (AllReady.cons (o := _) rfl (fun K hK => ?_) AllReady.nil)
        · refine step_app _ rfl (.tmp 53) (.tmp 55) slOnes rfl rfl (own_shut (sz := 5) (N := 0) (xs := []) hge73 VE73 (by simp) (by simp) (Nat.le_refl _) (by simp [maxLen]) (by simp)) rfl (rd.below hB73 (Nat.le_refl _)) (onesC_cell L) nL (Nat.zero_add _) (by unfold maxLen; omega) (by omega) hB73.size ?_
          intro A3 c3 w74 g1 g2 g3 g4 g5
          have hB74 := below_app hB73 (own_shut (sz := 5) (N := 0) (xs := []) hge73 VE73 (by simp) (by simp) (Nat.le_refl _) (by simp [maxLen]) (by simp)) g4 (Nat.le_refl _) hB73.size
          have O374 : w74.ownsRow X.heap.size 66 5 (.slice A3 nL c3) nL (onesC L) := by simpa using g3
          clear g1 g2 g3 g4 g5
          refine hK _ _ ?_
          clear hK K
          have cq74 := cell_keep hB74 hq2
          have ci740 := cell_keep hB74 hi0
          have ci741 := cell_keep hB74 hi1
          have ci742 := cell_keep hB74 hi2
          refine wpAny_ready (rs := [8]) (by kernel_rfl) (by simp) ?_
          refine AllReady.cons (o := _) rfl (fun K hK => ?_) AllReady.nil
          · go_simp
            refine hK _ _ ?_
            clear hK K
            refine name_any ?_
            intro w75 hw75
            have hB75 : Below X.heap.size X w75 := by rw [hw75]; exact b_alloc hB74 _
            have V875 : Vr w75 w74.heap.size 66 OC := by rw [hw75, hOC]; exact Vr.new w74 _ _
            have O375 := O374.alloc (.cells OC 66)
            rw [hOC, ← hw75] at O375
            clear hw75
            have cq75 := cell_keep hB75 hq2
            have ci750 := cell_keep hB75 hi0
            have ci751 := cell_keep hB75 hi1
            have ci752 := cell_keep hB75 hi2
            refine wpAny_ready (rs := [9]) (by kernel_rfl) (by simp) ?_
            refine AllReady.cons (o := _) rfl (fun K hK => ?_) AllReady.nil
            · refine step_app _ rfl (.tmp 56) (.tmp 61) slOnes rfl rfl O375 rfl (rd_vr V875 (m := 1) (sz := 5) hOCs) hOCc (nL + 1) rfl (by unfold maxLen; omega) (by omega) hB75.size ?_
              intro A5 c5 w76 g1 g2 g3 g4 g5
              have hB76 := below_app hB75 O375 g4 (Nat.le_refl _) hB75.size
              have O9 : w76.ownsRow X.heap.size 66 5 (.slice A5 (nL + 1) c5) (nL + 1) (onesC (L ++ [(player, tick, (x, y, z))])) := by rw [hOL]; exact g3
              clear g1 g2 g3 g4 g5
              refine hK _ _ ?_
              clear hK K
              have cq76 := cell_keep hB76 hq2
              have ci760 := cell_keep hB76 hi0
              have ci761 := cell_keep hB76 hi1
              have ci762 := cell_keep hB76 hi2
              refine take_at (i := 10) (some 63) (v := ?vo77) rfl rfl (by kernel_rfl) (by kernel_rfl) (by kernel_rfl) (fun _ _ _ h => h) (Or.inl ⟨by rfl, ?ho77⟩) ?ro77
              case ho77 => (intro w0; go_simp; try with_reducible rfl)
              simp only [Act.put, List.setIfInBounds_toArray]
              refine wpAny_ready (rs := [11]) (by kernel_rfl) (by simp) ?_
              refine AllReady.cons (o := _) rfl (fun K hK => ?_) AllReady.nil
              · have VQ := HQ.keep hB76 HQ.lt
                obtain ⟨vq1, vq2, vq3⟩ := VQ.facts
                go_simp
                refine hK _ _ ?_
                clear hK K
                refine wpAny_done (by kernel_rfl) ?_ _
                exact HJ.out A5 c5 _ _ _ _ _ _ _ _ _ _ _ _ (own_cell O9 (q := ⟨q, 2, none⟩) (by intro e; have := (O9.lt q e.symm).1; omega) _) (by simpa using VQ.set 2 (.slice A5 (nL + 1) c5)) (((Only.of_below hB76 (· = q) (fun j h1 h2 => by omega)).setCell (p := ⟨q, 2, none⟩) (.inl rfl) _))
        · go_simp
          refine hK _ _ ?_
          clear hK K
          refine name_any ?_
          intro w78 hw78
          have hB78 : Below X.heap.size X w78 := by rw [hw78]; exact b_alloc hB73 _
          have V878 : Vr w78 w73.heap.size 66 OC := by rw [hw78, hOC]; exact Vr.new w73 _ _
          have VE78 : Vr w78 w0.heap.size 66 #[] := by rw [hw78]; exact VE73.alloc _
          clear hw78
          have cq78 := cell_keep hB78 hq2
          have ci780 := cell_keep hB78 hi0
          have ci781 := cell_keep hB78 hi1
          have ci782 := cell_keep hB78 hi2
          refine wpAny_ready (rs := [3]) (by kernel_rfl) (by simp) ?_
          refine AllReady.cons (o := _) rfl (fun K hK => ?_) AllReady.nil
          · refine step_app _ rfl (.tmp 53) (.tmp 55) slOnes rfl rfl (own_shut (sz := 5) (N := 0) (xs := []) hge73 VE78 (by simp) (by simp) (Nat.le_refl _) (by simp [maxLen]) (by simp)) rfl (rd.below hB78 (Nat.le_refl _)) (onesC_cell L) nL (Nat.zero_add _) (by unfold maxLen; omega) (by omega) hB78.size ?_
            intro A3 c3 w79 g1 g2 g3 g4 g5
            have hB79 := below_app hB78 (own_shut (sz := 5) (N := 0) (xs := []) hge73 VE78 (by simp) (by simp) (Nat.le_refl _) (by simp [maxLen]) (by simp)) g4 (Nat.le_refl _) hB78.size
            have O379 : w79.ownsRow X.heap.size 66 5 (.slice A3 nL c3) nL (onesC L) := by simpa using g3
            have V879 := vr_app_ne VE78 V878 hOCn g4
            clear g1 g2 g3 g4 g5
            refine hK _ _ ?_
            clear hK K
            have cq79 := cell_keep hB79 hq2
            have ci790 := cell_keep hB79 hi0
            have ci791 := cell_keep hB79 hi1
            have ci792 := cell_keep hB79 hi2
            refine wpAny_ready (rs := [9]) (by kernel_rfl) (by simp) ?_
            refine AllReady.cons (o := _) rfl (fun K hK => ?_) AllReady.nil
            · refine step_app _ rfl (.tmp 56) (.tmp 61) slOnes rfl rfl O379 rfl (rd_vr V879 (m := 1) (sz := 5) hOCs) hOCc (nL + 1) rfl (by unfold maxLen; omega) (by omega) hB79.size ?_
              intro A5 c5 w80 g1 g2 g3 g4 g5
              have hB80 := below_app hB79 O379 g4 (Nat.le_refl _) hB79.size
              have O9 : w80.ownsRow X.heap.size 66 5 (.slice A5 (nL + 1) c5) (nL + 1) (onesC (L ++ [(player, tick, (x, y, z))])) := by rw [hOL]; exact g3
              clear g1 g2 g3 g4 g5
              refine hK _ _ ?_
              clear hK K
              have cq80 := cell_keep hB80 hq2
              have ci800 := cell_keep hB80 hi0
              have ci801 := cell_keep hB80 hi1
              have ci802 := cell_keep hB80 hi2
              refine take_at (i := 10) (some 63) (v := ?vo81) rfl rfl (by kernel_rfl) (by kernel_rfl) (by kernel_rfl) (fun _ _ _ h => h) (Or.inl ⟨by rfl, ?ho81⟩) ?ro81
              case ho81 => (intro w0; go_simp; try with_reducible rfl)
              simp only [Act.put, List.setIfInBounds_toArray]
              refine wpAny_ready (rs := [11]) (by kernel_rfl) (by simp) ?_
              refine AllReady.cons (o := _) rfl (fun K hK => ?_) AllReady.nil
              · have VQ := HQ.keep hB80 HQ.lt
                obtain ⟨vq1, vq2, vq3⟩ := VQ.facts
                go_simp
                refine hK _ _ ?_
                clear hK K
                refine wpAny_done (by kernel_rfl) ?_ _
                exact HJ.out A5 c5 _ _ _ _ _ _ _ _ _ _ _ _ (own_cell O9 (q := ⟨q, 2, none⟩) (by intro e; have := (O9.lt q e.symm).1; omega) _) (by simpa using VQ.set 2 (.slice A5 (nL + 1) c5)) (((Only.of_below hB80 (· = q) (fun j h1 h2 => by omega)).setCell (p := ⟨q, 2, none⟩) (.inl rfl) _))
      · go_simp
        refine hK _ _ ?_
        clear hK K
        refine name_any ?_
        intro w82 hw82
        have hB82 : Below X.heap.size X w82 := by rw [hw82]; exact b_alloc hB0 _
        have V882 : Vr w82 w0.heap.size 66 OC := by rw [hw82, hOC]; exact Vr.new w0 _ _
        clear hw82
        have cq82 := cell_keep hB82 hq2
        have ci820 := cell_keep hB82 hi0
        have ci821 := cell_keep hB82 hi1
        have ci822 := cell_keep hB82 hi2
        refine wpAny_ready (rs := [0]) (by kernel_rfl) (by simp) ?_
        refine AllReady.cons (o := _) rfl (fun K hK => ?_) AllReady.nil
        · go_simp
          refine hK _ _ ?_
          clear hK K
          refine name_any ?_
          intro w83 hw83
          have hB83 : Below X.heap.size X w83 := by rw [hw83]; exact b_alloc hB82 _
          have VE83 : Vr w83 w82.heap.size 66 #[] := by rw [hw83]; exact Vr.new w82 _ _
          have hge83 : X.heap.size ≤ w82.heap.size := hB82.size
          have V883 : Vr w83 w0.heap.size 66 OC := by rw [hw83]; exact V882.alloc _
          clear hw83
          have cq83 := cell_keep hB83 hq2
          have ci830 := cell_keep hB83 hi0
          have ci831 := cell_keep hB83 hi1
          have ci832 := cell_keep hB83 hi2
          refine wpAny_ready (rs := [3]) (by kernel_rfl) (by simp) ?_
          refine AllReady.cons (o := _) rfl (fun K hK => ?_) AllReady.nil
          · refine step_app _ rfl (.tmp 53) (.tmp 55) slOnes rfl rfl (own_shut (sz := 5) (N := 0) (xs := []) hge83 VE83 (by simp) (by simp) (Nat.le_refl _) (by simp [maxLen]) (by simp)) rfl (rd.below hB83 (Nat.le_refl _)) (onesC_cell L) nL (Nat.zero_add _) (by unfold maxLen; omega) (by omega) hB83.size ?_
            intro A3 c3 w84 g1 g2 g3 g4 g5
            have hB84 := below_app hB83 (own_shut (sz := 5) (N := 0) (xs := []) hge83 VE83 (by simp) (by simp) (Nat.le_refl _) (by simp [maxLen]) (by simp)) g4 (Nat.le_refl _) hB83.size
            have O384 : w84.ownsRow X.heap.size 66 5 (.slice A3 nL c3) nL (onesC L) := by simpa using g3
            have V884 := vr_app_ne VE83 V883 hOCn g4
            clear g1 g2 g3 g4 g5
            refine hK _ _ ?_
            clear hK K
            have cq84 := cell_keep hB84 hq2
            have ci840 := cell_keep hB84 hi0
            have ci841 := cell_keep hB84 hi1
            have ci842 := cell_keep hB84 hi2
            refine wpAny_ready (rs := [9]) (by kernel_rfl) (by simp) ?_
            refine AllReady.cons (o := _) rfl (fun K hK => ?_) AllReady.nil
            · refine step_app _ rfl (.tmp 56) (.tmp 61) slOnes rfl rfl O384 rfl (rd_vr V884 (m := 1) (sz := 5) hOCs) hOCc (nL + 1) rfl (by unfold maxLen; omega) (by omega) hB84.size ?_
              intro A5 c5 w85 g1 g2 g3 g4 g5
              have hB85 := below_app hB84 O384 g4 (Nat.le_refl _) hB84.size
              have O9 : w85.ownsRow X.heap.size 66 5 (.slice A5 (nL + 1) c5) (nL + 1) (onesC (L ++ [(player, tick, (x, y, z))])) := by rw [hOL]; exact g3
              clear g1 g2 g3 g4 g5
              refine hK _ _ ?_
              clear hK K
              have cq85 := cell_keep hB85 hq2
              have ci850 := cell_keep hB85 hi0
              have ci851 := cell_keep hB85 hi1
              have ci852 := cell_keep hB85 hi2
              refine take_at (i := 10) (some 63) (v := ?vo86) rfl rfl (by kernel_rfl) (by kernel_rfl) (by kernel_rfl) (fun _ _ _ h => h) (Or.inl ⟨by rfl, ?ho86⟩) ?ro86
              case ho86 => (intro w0; go_simp; try with_reducible rfl)
              simp only [Act.put, List.setIfInBounds_toArray]
              refine wpAny_ready (rs := [11]) (by kernel_rfl) (by simp) ?_
              refine AllReady.cons (o := _) rfl (fun K hK => ?_) AllReady.nil
              · have VQ := HQ.keep hB85 HQ.lt
                obtain ⟨vq1, vq2, vq3⟩ := VQ.facts
                go_simp
                refine hK _ _ ?_
                clear hK K
                refine wpAny_done (by kernel_rfl) ?_ _
                exact HJ.out A5 c5 _ _ _ _ _ _ _ _ _ _ _ _ (own_cell O9 (q := ⟨q, 2, none⟩) (by intro e; have := (O9.lt q e.symm).1; omega) _) (by simpa using VQ.set 2 (.slice A5 (nL + 1) c5)) (((Only.of_below hB85 (· = q) (fun j h1 h2 => by omega)).setCell (p := ⟨q, 2, none⟩) (.inl rfl) _))
    · go_simp
      refine hK _ _ ?_
      clear hK K
      refine name_any ?_
      intro w87 hw87
      have hB87 : Below X.heap.size X w87 := by rw [hw87]; exact b_alloc hB0 _
      have V887 : Vr w87 w0.heap.size 66 OC := by rw [hw87, hOC]; exact Vr.new w0 _ _
      clear hw87
      have cq87 := cell_keep hB87 hq2
      have ci870 := cell_keep hB87 hi0
      have ci871 := cell_keep hB87 hi1
      have ci872 := cell_keep hB87 hi2
      refine wpAny_ready (rs := [0, 2]) (by kernel_rfl) (by simp) ?_
      refine AllReady.cons (o := _) rfl (fun K hK => ?_) (AllReady.cons (o := _) rfl (fun K hK => ?_) AllReady.nil)
      · go_simp
        refine hK _ _ ?_
        clear hK K
        refine name_any ?_
        intro w88 hw88
        have hB88 : Below X.heap.size X w88 := by rw [hw88]; exact b_alloc hB87 _
        have VE88 : Vr w88 w87.heap.size 66 #[] := by rw [hw88]; exact Vr.new w87 _ _
        have hge88 : X.heap.size ≤ w87.heap.size := hB87.size
        have V888 : Vr w88 w0.heap.size 66 OC := by rw [hw88]; exact V887.alloc _
        clear hw88
        have cq88 := cell_keep hB88 hq2
        have ci880 := cell_keep hB88 hi0
        have ci881 := cell_keep hB88 hi1
        have ci882 := cell_keep hB88 hi2
        refine wpAny_ready (rs := [2]) (by kernel_rfl) (by simp) ?_
        refine AllReady.cons (o := _) rfl (fun K hK => ?_) AllReady.nil
        · go_simp
          refine hK _ _ ?_
          clear hK K
          refine wpAny_ready (rs := [3]) (by kernel_rfl) (by simp) ?_
          refine AllReady.cons (o := _) rfl (fun K hK => ?_) AllReady.nil
          · refine step_app _ rfl (.tmp 53) (.tmp 55) slOnes rfl rfl (own_shut (sz := 5) (N := 0) (xs := []) hge88 VE88 (by simp) (by simp) (Nat.le_refl _) (by simp [maxLen]) (by simp)) rfl (rd.below hB88 (Nat.le_refl _)) (onesC_cell L) nL (Nat.zero_add _) (by unfold maxLen; omega) (by omega) hB88.size ?_
            intro A3 c3 w89 g1 g2 g3 g4 g5
            have hB89 := below_app hB88 (own_shut (sz := 5) (N := 0) (xs := []) hge88 VE88 (by simp) (by simp) (Nat.le_refl _) (by simp [maxLen]) (by simp)) g4 (Nat.le_refl _) hB88.size
            have O389 : w89.ownsRow X.heap.size 66 5 (.slice A3 nL c3) nL (onesC L) := by simpa using g3
            have V889 := vr_app_ne VE88 V888 hOCn g4
            clear g1 g2 g3 g4 g5
            refine hK _ _ ?_
            clear hK K
            have cq89 := cell_keep hB89 hq2
            have ci890 := cell_keep hB89 hi0
            have ci891 := cell_keep hB89 hi1
            have ci892 := cell_keep hB89 hi2
            refine wpAny_ready (rs := [9]) (by kernel_rfl) (by simp) ?_
            refine AllReady.cons (o := _) rfl (fun K hK => ?_) AllReady.nil
            · refine step_app _ rfl (.tmp 56) (.tmp 61) slOnes rfl rfl O389 rfl (rd_vr V889 (m := 1) (sz := 5) hOCs) hOCc (nL + 1) rfl (by unfold maxLen; omega) (by omega) hB89.size ?_
              intro A5 c5 w90 g1 g2 g3 g4 g5
              have hB90 := below_app hB89 O389 g4 (Nat.le_refl _) hB89.size
              have O9 : w90.ownsRow X.heap.size 66 5 (.slice A5 (nL + 1) c5) (nL + 1) (onesC (L ++ [(player, tick, (x, y, z))])) := by rw [hOL]; exact g3
              clear g1 g2 g3 g4 g5
              refine hK _ _ ?_
              clear hK K
              have cq90 := cell_keep hB90 hq2
              have ci900 := cell_keep hB90 hi0
              have ci901 := cell_keep hB90 hi1
              have ci902 := cell_keep hB90 hi2
              refine take_at (i := 10) (some 63) (v := ?vo91) rfl rfl (by kernel_rfl) (by kernel_rfl) (by kernel_rfl) (fun _ _ _ h => h) (Or.inl ⟨by rfl, ?ho91⟩) ?ro91
              case ho91 => (intro w0; go_simp; try with_reducible rfl)
              simp only [Act.put, List.setIfInBounds_toArray]
              refine wpAny_ready (rs := [11]) (by kernel_rfl) (by simp) ?_
              refine AllReady.cons (o := _) rfl (fun K hK => ?_) AllReady.nil
              · have VQ := HQ.keep hB90 HQ.lt
                obtain ⟨vq1, vq2, vq3⟩ := VQ.facts
                go_simp
                refine hK _ _ ?_
                clear hK K
                refine wpAny_done (by kernel_rfl) ?_ _
                exact HJ.out A5 c5 _ _ _ _ _ _ _ _ _ _ _ _ (own_cell O9 (q := ⟨q, 2, none⟩) (by intro e; have := (O9.lt q e.symm).1; omega) _) (by simpa using VQ.set 2 (.slice A5 (nL + 1) c5)) (((Only.of_below hB90 (· = q) (fun j h1 h2 => by omega)).setCell (p := ⟨q, 2, none⟩) (.inl rfl) _))
      · go_simp
        refine hK _ _ ?_
        clear hK K
        refine wpAny_ready (rs := [0]) (by kernel_rfl) (by simp) ?_
        refine AllReady.cons (o := _) rfl (fun K hK => ?_) AllReady.nil
        · go_simp
          refine hK _ _ ?_
          clear hK K
          refine name_any ?_
          intro w92 hw92
          have hB92 : Below X.heap.size X w92 := by rw [hw92]; exact b_alloc hB87 _
          have VE92 : Vr w92 w87.heap.size 66 #[] := by rw [hw92]; exact Vr.new w87 _ _
          have hge92 : X.heap.size ≤ w87.heap.size := hB87.size
          have V892 : Vr w92 w0.heap.size 66 OC := by rw [hw92]; exact V887.alloc _
          clear hw92
          have cq92 := cell_keep hB92 hq2
          have ci920 := cell_keep hB92 hi0
          have ci921 := cell_keep hB92 hi1
          have ci922 := cell_keep hB92 hi2
          refine wpAny_ready (rs := [3]) (by kernel_rfl) (by simp) ?_
          refine AllReady.cons (o := _) rfl (fun K hK => ?_) AllReady.nil
          · refine step_app _ rfl (.tmp 53) (.tmp 55) slOnes rfl rfl (own_shut (sz := 5) (N := 0) (xs := []) hge92 VE92 (by simp) (by simp) (Nat.le_refl _) (by simp [maxLen]) (by simp)) rfl (rd.below hB92 (Nat.le_refl _)) (onesC_cell L) nL (Nat.zero_add _) (by unfold maxLen; omega) (by omega) hB92.size ?_
            intro A3 c3 w93 g1 g2 g3 g4 g5
            have hB93 := below_app hB92 (own_shut (sz := 5) (N := 0) (xs := []) hge92 VE92 (by simp) (by simp) (Nat.le_refl _) (by simp [maxLen]) (by simp)) g4 (Nat.le_refl _) hB92.size
            have O393 : w93.ownsRow X.heap.size 66 5 (.slice A3 nL c3) nL (onesC L) := by simpa using g3
            have V893 := vr_app_ne VE92 V892 hOCn g4
            clear g1 g2 g3 g4 g5
            refine hK _ _ ?_
            clear hK K
            have cq93 := cell_keep hB93 hq2
            have ci930 := cell_keep hB93 hi0
            have ci931 := cell_keep hB93 hi1
            have ci932 := cell_keep hB93 hi2
            refine wpAny_ready (rs := [9]) (by kernel_rfl) (by simp) ?_
            refine AllReady.cons (o := _) rfl (fun K hK => ?_) AllReady.nil
            · refine step_app _ rfl (.tmp 56) (.tmp 61) slOnes rfl rfl O393 rfl (rd_vr V893 (m := 1) (sz := 5) hOCs) hOCc (nL + 1) rfl (by unfold maxLen; omega) (by omega) hB93.size ?_
              intro A5 c5 w94 g1 g2 g3 g4 g5
              have hB94 := below_app hB93 O393 g4 (Nat.le_refl _) hB93.size
              have O9 : w94.ownsRow X.heap.size 66 5 (.slice A5 (nL + 1) c5) (nL + 1) (onesC (L ++ [(player, tick, (x, y, z))])) := by rw [hOL]; exact g3
              clear g1 g2 g3 g4 g5
              refine hK _ _ ?_
              clear hK K
              have cq94 := cell_keep hB94 hq2
              have ci940 := cell_keep hB94 hi0
              have ci941 := cell_keep hB94 hi1
              have ci942 := cell_keep hB94 hi2
              refine take_at (i := 10) (some 63) (v := ?vo95) rfl rfl (by kernel_rfl) (by kernel_rfl) (by kernel_rfl) (fun _ _ _ h => h) (Or.inl ⟨by rfl, ?ho95⟩) ?ro95
              case ho95 => (intro w0; go_simp; try with_reducible rfl)
              simp only [Act.put, List.setIfInBounds_toArray]
              refine wpAny_ready (rs := [11]) (by kernel_rfl) (by simp) ?_
              refine AllReady.cons (o := _) rfl (fun K hK => ?_) AllReady.nil
              · have VQ := HQ.keep hB94 HQ.lt
                obtain ⟨vq1, vq2, vq3⟩ := VQ.facts
                go_simp
                refine hK _ _ ?_
                clear hK K
                refine wpAny_done (by kernel_rfl) ?_ _
                exact HJ.out A5 c5 _ _ _ _ _ _ _ _ _ _ _ _ (own_cell O9 (q := ⟨q, 2, none⟩) (by intro e; have := (O9.lt q e.symm).1; omega) _) (by simpa using VQ.set 2 (.slice A5 (nL + 1) c5)) (((Only.of_below hB94 (· = q) (fun j h1 h2 => by omega)).setCell (p := ⟨q, 2, none⟩) (.inl rfl) _))
end Go.Proofs.Ytdjmaljldajpiaa
