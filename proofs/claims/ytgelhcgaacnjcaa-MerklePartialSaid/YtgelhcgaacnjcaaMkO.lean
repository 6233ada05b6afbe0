/-
  WHAT IS PROVED HERE: the contract of the reference's Bent. No condition but that the leaf lies in memory, and bounds that every machine's lengths meet.
-/
import Derived.Test.YtgelhcgaacnjcaaMkN
namespace Go.Proofs.Ytgelhcgaacnjcaa
set_option linter.unusedVariables false
open Go.ChangeShapes Go.WideShapes Go.ChangeAt Go.RowKit

/-- the leaf with one element replaced -/
@[irreducible] def bentOf (ix v : Int) (prf : List Int) (k d : Int) : Int × Int × List Int :=
  if k = 0 then (wrap64 (ix + d), v, prf) else if k = 1 then (ix, wrap64 (v + d), prf) else (ix, v, prf.set (k - 2).toNat (u64w (prf.getD (k - 2).toNat 0 + d)))
theorem bentOf_0 (ix v : Int) (prf : List Int) (d : Int) : bentOf ix v prf 0 d = (wrap64 (ix + d), v, prf) := by unfold bentOf; rw [if_pos rfl]
theorem bentOf_1 (ix v : Int) (prf : List Int) (d : Int) : bentOf ix v prf 1 d = (ix, wrap64 (v + d), prf) := by unfold bentOf; rw [if_neg (by omega), if_pos rfl]
theorem bentOf_2 (ix v : Int) (prf : List Int) (d : Int) (j : Nat) : bentOf ix v prf ((j : Int) + 2) d = (ix, v, prf.set j (u64w (prf.getD j 0 + d))) := by
  unfold bentOf
  rw [if_neg (by omega), if_neg (by omega), show ((j : Int) + 2 - 2).toNat = j from by omega]
set_option maxHeartbeats 4000000 in
set_option maxRecDepth 100000 in
theorem bent_any (ix v : Int) (A : Option Addr) (m c : Nat) (prf : List Int) (how by_ : Int) (W0 : World) (rd : Rd W0 W0.heap.size 1 A m (prf.map (Value.int .u64))) (hm : m ≤ 1000) (hh : I64 how) (hb : I64 by_) :
    Calls Try.prog 14 #[.agg #[.int .i64 ix, .int .i64 v, .slice A m c], .int .i64 how, .int .i64 by_] W0 (RetLf W0 (bentOf ix v prf (around how (2 + prf.length)) (1 + around by_ 1000000)).1 (bentOf ix v prf (around how (2 + prf.length)) (1 + around by_ 1000000)).2.1 (bentOf ix v prf (around how (2 + prf.length)) (1 + around by_ 1000000)).2.2) := by
  have hll : prf.length = m := by have := rd.1; simpa using this
  have HL := Lib.hid hll
  have RD := Lib.hid rd
  obtain ⟨h1, h2⟩ := hh
  obtain ⟨b1, b2⟩ := hb
  rw [hll]
  have hk := around_bd how (2 + (m : Int)) (by omega)
  have hd := around_bd by_ 1000000 (by omega)
  obtain ⟨k, hk0⟩ : ∃ k, around how (2 + (m : Int)) = k := ⟨_, rfl⟩
  obtain ⟨d, hd0⟩ : ∃ d, around by_ 1000000 = d := ⟨_, rfl⟩
  rw [hk0] at hk
  rw [hd0] at hd
  rw [hk0, hd0]
  have HK := Lib.hid hk0
  have HD := Lib.hid hd0
  obtain ⟨k1, k2⟩ := hk
  obtain ⟨d1, d2⟩ := hd
  clear rd hll hk0 hd0
  go_enter Try.func14, Try.ntmps14
  go_upto_region 1 with (fail)
  refine name_world ?_
  intro X hX
  obtain ⟨B, hB⟩ : ∃ x, W0.heap.size = x := ⟨_, rfl⟩
  have hBX : Below W0.heap.size W0 X := by rw [hX]; (repeat (first | (with_reducible exact Below.refl _ _) | (with_reducible assumption) | (with_reducible refine b_drew ?_) | (with_reducible refine b_drewN ?_ _) | (with_reducible refine b_alloc ?_ _) | ((with_reducible refine b_set ?_ ?_ _); rotate_left; (focus (first | omega | (simp; done) | (simp; omega) | (simp at *; omega)))) | (with_reducible refine b_call ?_ (by with_reducible assumption))))
  have V3 := Lib.hid (show Vr X B 25 #[.int .i64 ix, .int .i64 v, .slice A m c] from by rw [hX, ← hB]; exact (Vr.new W0 _ _).alloc _)
  have V6 := Lib.hid (show Vr X (B + 1) 25 #[.int .i64 0, .int .i64 0, .slice none 0 0] from by rw [hX, ← hB]; exact vr_new2 W0 _ _ _)
  have hXs : X.heap.size = B + 1 + 1 := by rw [hX, ← hB]; simp
  have HXs := Lib.hid hXs
  have hX1 : B + 1 < X.heap.size := by omega
  have hX0 : B < X.heap.size := by omega
  have HBX := Lib.hid hBX
  have HB0 := Lib.hid hB
  have RX := Lib.hid (RD.out.below hBX (Nat.le_refl _))
  rw [hB] at RX
  have t2 : X.cell? ⟨B, 2, none⟩ = some (.slice A m c) := V3.out.cell 2
  have t3 := V3.out.frozen
  rw [hB]
  clear hX hB hBX hXs RD
  have OE := own_shut (base := B) (sz := 1) (N := 0) (c := 0) (xs := []) (show B ≤ X.heap.size by omega) (Vr.new X 22 #[]) (by simp) (by simp) (Nat.le_refl _) (by simp [maxLen]) (by simp)
  have HOE := Lib.hid OE
  clear OE
  go_wp2_with (at_builtin; refine wpList_app _ rfl (.tmp 9) (.tmp 11) slU64b rfl (v := .slice (some ⟨X.heap.size, 0, none⟩) 0 0) rfl HOE.out rfl ((RX.out.below (b_alloc (Below.refl _ _) _) (by omega)).more (show B ≤ (X.alloc (.cells #[] 22)).heap.size by simp; omega)) (ints_one _ _) m (Nat.zero_add _) (by unfold maxLen; omega) (by omega) (by simp; omega) ?_; intro A2 c2 w2 g1 g2 g3 g4 g5; obtain ⟨u1, u2, u3⟩ := (show Vr w2 B 25 #[.int .i64 ix, .int .i64 v, .slice A m c] from (V3.out.alloc _).grown g4 (by simp [Value.ownBlock]; omega)).facts)
  refine name_worldC ?_
  intro X2 hX2
  have hrow : ∀ x, (Value.slice A2 m c2).ownBlock = some x → X.heap.size ≤ x := by
    intro x e
    rcases g5 with h | h <;> rw [h] at e
    · simp [Value.ownBlock] at e; omega
    · injection e with e; simp at e; omega
  have O2 : Only (fun x => x = B ∨ x = X.heap.size) X X2 := by
    rw [hX2]
    exact (((Only.refl _ _).alloc _).grown g4 (fun x e => .inl (.inr (by simpa [Value.ownBlock] using e.symm)))).setCell (.inl (.inl rfl)) _
  have V3b := Lib.hid (show Vr X2 B 25 #[.int .i64 ix, .int .i64 v, .slice A2 m c2] from by
    rw [hX2]
    have := ((V3.out.alloc _).grown g4 (by simp [Value.ownBlock]; omega)).set 2 (.slice A2 m c2)
    simpa using this)
  have V6b := Lib.hid (V6.out.only O2 (by omega))
  have OW := Lib.hid (show X2.ownsRow B 22 1 (.slice A2 m c2) m (prf.map (Value.int .u64)) from by
    rw [hX2]
    exact own_only g3 (o_set (Only.refl _ _) 2 _) (fun x e h => by have := hrow x e; omega))
  have HB2 := Lib.hid (HBX.out.trans (O2.below (B := W0.heap.size) HBX.out.size (fun x e => by have := HB0.out; omega)))
  have HR := Lib.hid hrow
  have hX2s : X.heap.size ≤ X2.heap.size := O2.size
  clear hX2 O2 V3 V6 HOE g3 g4 g5 hrow t2 t3 u1 u2 u3 RX
  refine (around_any by_ 1000000 _ b1 b2 (by omega) (by omega)).mono ?_
  rintro e w_ ⟨rfl, rfl⟩
  rw [HD.out]
  have t2 : X2.cell? ⟨B, 2, none⟩ = some (.slice A2 m c2) := V3b.out.cell 2
  have e2 : IntKind.i64.wrap (2 + (m : Int)) = 2 + (m : Int) := IntWalk.i64_in _ (by omega)
  go_wp2_with fail
  refine (around_any how (2 + (m : Int)) _ h1 h2 (by omega) (by omega)).mono ?_
  rintro e w_ ⟨rfl, rfl⟩
  rw [HK.out]
  clear e2 h1 h2 b1 b2 HK HD
  by_cases c0 : k = 0
  · subst c0
    obtain ⟨y1, y2, y3⟩ := V3b.out.facts
    have q0 : ((0 : Int) == 0) = true := rfl
    go_upto_region 9 with (fail)
    refine name_world ?_
    intro Y hY
    have OY : Only (fun x => x = B ∨ (Value.slice A2 m c2).ownBlock = some x) X2 Y := by rw [hY]; exact Only.setCell (Only.refl _ _) (.inl (.inl rfl)) _
    have VY := Lib.hid (show Vr Y B 25 #[.int .i64 (wrap64 (ix + (1 + d))), .int .i64 (v), .slice A2 m c2] from by rw [hY]; have := V3b.out.set 0 (.int .i64 (wrap64 (ix + (1 + d)))); simpa using this)
    have WY := Lib.hid (V6b.out.only OY (by rintro (h | h); omega; have := HR.out _ h; omega))
    have PY := Lib.hid (show Y.ownsRow B 22 1 (.slice A2 m c2) m ((prf).map (Value.int .u64)) from by rw [hY]; exact own_only OW.out (o_set (Only.refl _ _) 0 _) (fun x e h => by have := HR.out x e; omega))
    have BY := Lib.hid (HB2.out.trans (OY.below (B := W0.heap.size) HB2.out.size (fun x h => by have := HB0.out; rcases h with h | h; omega; have := HR.out _ h; omega)))
    obtain ⟨u1, u2, u3⟩ := VY.out.facts
    obtain ⟨z1, z2, z3⟩ := WY.out.facts
    have hbb : ¬ B + 1 = B := by omega
    clear hY OY y1 y2 y3 q0
    go_wp2
    refine name_post ?_
    intro Z hZ
    have VZ := vr_set3 WY.out (.int .i64 (wrap64 (ix + (1 + d)))) (.int .i64 (v)) (.slice A2 m c2)
    have OZ : Only (· = B + 1) Y Z := by rw [hZ]; exact o_set (o_set (o_set (Only.refl _ _) _ _) _ _) _ _
    rw [← hZ] at VZ
    obtain ⟨x1, x2, x3⟩ := VZ.facts
    have hbZ := BY.out.trans (OZ.below (B := W0.heap.size) BY.out.size (fun x e => by have := HB0.out; omega))
    have hoZ := own_only PY.out OZ (fun x e h => by have := HR.out x e; omega)
    rw [← HB0.out] at hoZ
    clear hZ
    refine bodyPost_ret (v := .agg #[.int .i64 (wrap64 (ix + (1 + d))), .int .i64 (v), .slice A2 m c2]) (by simp [results, Try.results14, go_sem, x2]) rfl ?_
    rw [bentOf_0]
    exact ⟨A2, c2, by rw [HL.out], by rw [HL.out]; exact hoZ, by rw [HL.out]; exact g1, g2, hbZ⟩
  · by_cases c1 : k = 1
    · subst c1
      obtain ⟨y1, y2, y3⟩ := V3b.out.facts
      have q0 : ((1 : Int) == 0) = false := rfl
      have q1 : ((1 : Int) == 1) = true := rfl
      go_upto_region 9 with (fail)
      refine name_world ?_
      intro Y hY
      have OY : Only (fun x => x = B ∨ (Value.slice A2 m c2).ownBlock = some x) X2 Y := by rw [hY]; exact Only.setCell (Only.refl _ _) (.inl (.inl rfl)) _
      have VY := Lib.hid (show Vr Y B 25 #[.int .i64 (ix), .int .i64 (wrap64 (v + (1 + d))), .slice A2 m c2] from by rw [hY]; have := V3b.out.set 1 (.int .i64 (wrap64 (v + (1 + d)))); simpa using this)
      have WY := Lib.hid (V6b.out.only OY (by rintro (h | h); omega; have := HR.out _ h; omega))
      have PY := Lib.hid (show Y.ownsRow B 22 1 (.slice A2 m c2) m ((prf).map (Value.int .u64)) from by rw [hY]; exact own_only OW.out (o_set (Only.refl _ _) 1 _) (fun x e h => by have := HR.out x e; omega))
      have BY := Lib.hid (HB2.out.trans (OY.below (B := W0.heap.size) HB2.out.size (fun x h => by have := HB0.out; rcases h with h | h; omega; have := HR.out _ h; omega)))
      obtain ⟨u1, u2, u3⟩ := VY.out.facts
      obtain ⟨z1, z2, z3⟩ := WY.out.facts
      have hbb : ¬ B + 1 = B := by omega
      clear hY OY y1 y2 y3 q0 q1
      go_wp2
      refine name_post ?_
      intro Z hZ
      have VZ := vr_set3 WY.out (.int .i64 (ix)) (.int .i64 (wrap64 (v + (1 + d)))) (.slice A2 m c2)
      have OZ : Only (· = B + 1) Y Z := by rw [hZ]; exact o_set (o_set (o_set (Only.refl _ _) _ _) _ _) _ _
      rw [← hZ] at VZ
      obtain ⟨x1, x2, x3⟩ := VZ.facts
      have hbZ := BY.out.trans (OZ.below (B := W0.heap.size) BY.out.size (fun x e => by have := HB0.out; omega))
      have hoZ := own_only PY.out OZ (fun x e h => by have := HR.out x e; omega)
      rw [← HB0.out] at hoZ
      clear hZ
      refine bodyPost_ret (v := .agg #[.int .i64 (ix), .int .i64 (wrap64 (v + (1 + d))), .slice A2 m c2]) (by simp [results, Try.results14, go_sem, x2]) rfl ?_
      rw [bentOf_1]
      exact ⟨A2, c2, by rw [HL.out], by rw [HL.out]; exact hoZ, by rw [HL.out]; exact g1, g2, hbZ⟩
    · obtain ⟨j, rfl⟩ : ∃ j : Nat, k = (j : Int) + 2 := ⟨(k - 2).toNat, by omega⟩
      have hjm : j < m := by omega
      have q0 : ((j : Int) + 2 == 0) = false := by rw [beq_eq_false_iff_ne]; omega
      have q1 : ((j : Int) + 2 == 1) = false := by rw [beq_eq_false_iff_ne]; omega
      obtain ⟨gr, cur, rfl, hgB, Vg, hcur, hnc, hcs⟩ := own_open OW.out (by omega)
      obtain ⟨pj, hpj⟩ : ∃ y, prf.getD j 0 = y := ⟨_, rfl⟩
      have HPJ := Lib.hid hpj
      have hcj : X2.cell? ⟨gr, j, none⟩ = some (.int .u64 pj) := by
        rw [Vg.cell]
        have h1 : (cur.toList.take (m * 1))[j]? = some (.int .u64 pj) := by
          rw [hcur]
          have hl := HL.out
          simp [List.getD, show j < prf.length by omega] at hpj ⊢
          exact hpj
        rw [List.getElem?_take] at h1
        split at h1
        · simpa using h1
        · cases h1
      have hfj := Vg.frozen j
      have hgr : ¬ gr = B := by have := HR.out gr (by simp [Value.ownBlock]); omega
      have OWS := Lib.hid (own_set OW.out j (.int .u64 (u64w (pj + (1 + d)))))
      rw [← List.map_set] at OWS
      go_upto_region 8 with (fail)
      obtain ⟨Z, rfl⟩ : ∃ Z : World, Z = X2 := ⟨_, rfl⟩
      have E3 := Lib.hid (show IntKind.i64.wrap (j : Int) = (j : Int) from IntWalk.i64_in _ (by omega))
      have E8 := Lib.hid (show (0 : Int) ≤ (j : Int) ∧ (j : Int) < (m : Int) from by omega)
      have E11 := Lib.hid (show IntKind.u64.wrap (1 + d) = 1 + d from by rw [IntKind.wrap_u64]; omega)
      clear q0 q1 Vg hpj
      refine wp_region_any (by kernel_rfl) ?_
      change wpAny _ _ _ _ _ _ _ (World.drew _)
      refine wpAny_go (fun A0 L aa w => ∃ (v37 v38 v39 v40 v41 v42 v43 v44 v45 v46 v47 v48 v49 v50 : Value), aa = fr A0 [(37, v37), (38, v38), (39, v39), (40, v40), (41, v41), (42, v42), (43, v43), (44, v44), (45, v45), (46, v46), (47, v47), (48, v48), (49, v49), (50, v50)] ∧ (L 14 = true → L 9 = true) ∧ (Hid ((L 14 = false → Z.heap.size ≤ w.heap.size ∧ Only (fun _ => False) Z w) ∧ (L 14 = true → Only (· = gr) Z w ∧ w.ownsRow B 22 1 (.slice (some ⟨gr, 0, none⟩) m c2) m ((prf.set j (u64w (pj + (1 + d)))).map (Value.int .u64))))) ∧ Hid (L 0 = true → v37 = Value.pointer (some ⟨B, 2, none⟩)) ∧ Hid (L 1 = true → v38 = Value.slice (some ⟨gr, 0, none⟩) m c2) ∧ Hid (L 2 = true → v39 = Value.int .i64 ((j : Int) + 2)) ∧ Hid (L 3 = true → v40 = Value.int .i64 j) ∧ Hid (L 4 = true → v41 = Value.pointer (some ⟨B, 2, none⟩)) ∧ Hid (L 5 = true → v42 = Value.slice (some ⟨gr, 0, none⟩) m c2) ∧ Hid (L 6 = true → v43 = Value.int .i64 ((j : Int) + 2)) ∧ Hid (L 7 = true → v44 = Value.int .i64 j) ∧ Hid (L 8 = true → v45 = Value.pointer (some ⟨gr, j, none⟩)) ∧ Hid (L 9 = true → v46 = Value.int .u64 pj) ∧ Hid (L 10 = true → v47 = Value.int .i64 (1 + d)) ∧ Hid (L 11 = true → v48 = Value.int .u64 (1 + d)) ∧ Hid (L 12 = true → v49 = Value.int .u64 (u64w (pj + (1 + d)))) ∧ Hid (L 13 = true → v50 = Value.pointer (some ⟨gr, j, none⟩))) [0, 1, 2, 3, 4, 5, 6, 7, 8, 9, 10, 11, 12, 13, 14] (by kernel_rfl) (by kernel_rfl) ?a56I ?a56S ?a56D
      case a56I =>
        refine ⟨?a56v37, ?a56v38, ?a56v39, ?a56v40, ?a56v41, ?a56v42, ?a56v43, ?a56v44, ?a56v45, ?a56v46, ?a56v47, ?a56v48, ?a56v49, ?a56v50, ?a56fr, no_yet (by kernel_rfl), Lib.hid ⟨fun _ => ⟨Nat.le_refl _, (Only.refl _ _).drew⟩, no_yet (by kernel_rfl)⟩, Lib.hid (no_yet (by kernel_rfl)), Lib.hid (no_yet (by kernel_rfl)), Lib.hid (no_yet (by kernel_rfl)), Lib.hid (no_yet (by kernel_rfl)), Lib.hid (no_yet (by kernel_rfl)), Lib.hid (no_yet (by kernel_rfl)), Lib.hid (no_yet (by kernel_rfl)), Lib.hid (no_yet (by kernel_rfl)), Lib.hid (no_yet (by kernel_rfl)), Lib.hid (no_yet (by kernel_rfl)), Lib.hid (no_yet (by kernel_rfl)), Lib.hid (no_yet (by kernel_rfl)), Lib.hid (no_yet (by kernel_rfl)), Lib.hid (no_yet (by kernel_rfl))⟩
        case a56fr => (simp only [fr, List.foldl_cons, List.foldl_nil, Act.put, List.setIfInBounds_toArray, List.set_cons_zero, List.set_cons_succ]; rfl)
      case a56S =>
        refine Steps.plain (i := 0) (o := ?a56o0) [] ?a56h0 ?a56g0 ?a56d0 ?a56s0 ?a56r0
        case a56h0 => (simp only [List.getElem?_toArray, List.getElem?_cons_zero]; rfl)
        case a56g0 => rfl
        case a56d0 => kernel_rfl
        case a56s0 =>
          rintro L aa w h0 _ ⟨v37, v38, v39, v40, v41, v42, v43, v44, v45, v46, v47, v48, v49, v50, rfl, hY, hW, hF⟩ K hK
          simp only [fr, List.foldl_cons, List.foldl_nil, Act.put, List.setIfInBounds_toArray, List.set_cons_zero, List.set_cons_succ]
          go_simp
          exact hK _ _ ⟨(Value.pointer (some ⟨B, 2, none⟩)), v38, v39, v40, v41, v42, v43, v44, v45, v46, v47, v48, v49, v50, (by (simp only [fr, List.foldl_cons, List.foldl_nil, Act.put, List.setIfInBounds_toArray, List.set_cons_zero, List.set_cons_succ]); try rfl), hY, hW, Lib.hid (fun _ => rfl), hF.2.1, hF.2.2.1, hF.2.2.2.1, hF.2.2.2.2.1, hF.2.2.2.2.2.1, hF.2.2.2.2.2.2.1, hF.2.2.2.2.2.2.2.1, hF.2.2.2.2.2.2.2.2.1, hF.2.2.2.2.2.2.2.2.2.1, hF.2.2.2.2.2.2.2.2.2.2.1, hF.2.2.2.2.2.2.2.2.2.2.2.1, hF.2.2.2.2.2.2.2.2.2.2.2.2.1, hF.2.2.2.2.2.2.2.2.2.2.2.2.2⟩
        refine Steps.plain (i := 1) (o := ?a56o1) [0] ?a56h1 ?a56g1 ?a56d1 ?a56s1 ?a56r1
        case a56h1 => (simp only [List.getElem?_toArray, List.getElem?_cons_succ, List.getElem?_cons_zero]; rfl)
        case a56g1 => rfl
        case a56d1 => kernel_rfl
        case a56s1 =>
          rintro L aa w h0 ⟨e0, _⟩ ⟨v37, v38, v39, v40, v41, v42, v43, v44, v45, v46, v47, v48, v49, v50, rfl, hY, hW, hF⟩ K hK
          obtain rfl := (hF.1).out e0
          simp only [fr, List.foldl_cons, List.foldl_nil, Act.put, List.setIfInBounds_toArray, List.set_cons_zero, List.set_cons_succ]
          have x := (hW.out)
          have y : w.cell? ⟨B, 2, none⟩ = some (.slice (some ⟨gr, 0, none⟩) m c2) := by rcases h : L 14 with _ | _; exact only_cell (x.1 h).2 (V3b.out.cell 2) (fun h => h); exact only_cell (x.2 h).1 (V3b.out.cell 2) (fun e => hgr e.symm)
          clear x
          go_simp
          exact hK _ _ ⟨(Value.pointer (some ⟨B, 2, none⟩)), (Value.slice (some ⟨gr, 0, none⟩) m c2), v39, v40, v41, v42, v43, v44, v45, v46, v47, v48, v49, v50, (by (simp only [fr, List.foldl_cons, List.foldl_nil, Act.put, List.setIfInBounds_toArray, List.set_cons_zero, List.set_cons_succ]); try rfl), hY, hW, hF.1, Lib.hid (fun _ => rfl), hF.2.2.1, hF.2.2.2.1, hF.2.2.2.2.1, hF.2.2.2.2.2.1, hF.2.2.2.2.2.2.1, hF.2.2.2.2.2.2.2.1, hF.2.2.2.2.2.2.2.2.1, hF.2.2.2.2.2.2.2.2.2.1, hF.2.2.2.2.2.2.2.2.2.2.1, hF.2.2.2.2.2.2.2.2.2.2.2.1, hF.2.2.2.2.2.2.2.2.2.2.2.2.1, hF.2.2.2.2.2.2.2.2.2.2.2.2.2⟩
        refine Steps.plain (i := 2) (o := ?a56o2) [] ?a56h2 ?a56g2 ?a56d2 ?a56s2 ?a56r2
        case a56h2 => (simp only [List.getElem?_toArray, List.getElem?_cons_succ, List.getElem?_cons_zero]; rfl)
        case a56g2 => rfl
        case a56d2 => kernel_rfl
        case a56s2 =>
          rintro L aa w h0 _ ⟨v37, v38, v39, v40, v41, v42, v43, v44, v45, v46, v47, v48, v49, v50, rfl, hY, hW, hF⟩ K hK
          simp only [fr, List.foldl_cons, List.foldl_nil, Act.put, List.setIfInBounds_toArray, List.set_cons_zero, List.set_cons_succ]
          go_simp
          exact hK _ _ ⟨v37, v38, (Value.int .i64 ((j : Int) + 2)), v40, v41, v42, v43, v44, v45, v46, v47, v48, v49, v50, (by (simp only [fr, List.foldl_cons, List.foldl_nil, Act.put, List.setIfInBounds_toArray, List.set_cons_zero, List.set_cons_succ]); try rfl), hY, hW, hF.1, hF.2.1, Lib.hid (fun _ => rfl), hF.2.2.2.1, hF.2.2.2.2.1, hF.2.2.2.2.2.1, hF.2.2.2.2.2.2.1, hF.2.2.2.2.2.2.2.1, hF.2.2.2.2.2.2.2.2.1, hF.2.2.2.2.2.2.2.2.2.1, hF.2.2.2.2.2.2.2.2.2.2.1, hF.2.2.2.2.2.2.2.2.2.2.2.1, hF.2.2.2.2.2.2.2.2.2.2.2.2.1, hF.2.2.2.2.2.2.2.2.2.2.2.2.2⟩
        refine Steps.plain (i := 3) (o := ?a56o3) [2] ?a56h3 ?a56g3 ?a56d3 ?a56s3 ?a56r3
        case a56h3 => (simp only [List.getElem?_toArray, List.getElem?_cons_succ, List.getElem?_cons_zero]; rfl)
        case a56g3 => rfl
        case a56d3 => kernel_rfl
        case a56s3 =>
          rintro L aa w h0 ⟨e2, _⟩ ⟨v37, v38, v39, v40, v41, v42, v43, v44, v45, v46, v47, v48, v49, v50, rfl, hY, hW, hF⟩ K hK
          obtain rfl := (hF.2.2.1).out e2
          simp only [fr, List.foldl_cons, List.foldl_nil, Act.put, List.setIfInBounds_toArray, List.set_cons_zero, List.set_cons_succ]
          have x := E3.out
          go_simp
          exact hK _ _ ⟨v37, v38, (Value.int .i64 ((j : Int) + 2)), (Value.int .i64 j), v41, v42, v43, v44, v45, v46, v47, v48, v49, v50, (by (simp only [fr, List.foldl_cons, List.foldl_nil, Act.put, List.setIfInBounds_toArray, List.set_cons_zero, List.set_cons_succ]); try rfl), hY, hW, hF.1, hF.2.1, hF.2.2.1, Lib.hid (fun _ => rfl), hF.2.2.2.2.1, hF.2.2.2.2.2.1, hF.2.2.2.2.2.2.1, hF.2.2.2.2.2.2.2.1, hF.2.2.2.2.2.2.2.2.1, hF.2.2.2.2.2.2.2.2.2.1, hF.2.2.2.2.2.2.2.2.2.2.1, hF.2.2.2.2.2.2.2.2.2.2.2.1, hF.2.2.2.2.2.2.2.2.2.2.2.2.1, hF.2.2.2.2.2.2.2.2.2.2.2.2.2⟩
        refine Steps.plain (i := 4) (o := ?a56o4) [] ?a56h4 ?a56g4 ?a56d4 ?a56s4 ?a56r4
        case a56h4 => (simp only [List.getElem?_toArray, List.getElem?_cons_succ, List.getElem?_cons_zero]; rfl)
        case a56g4 => rfl
        case a56d4 => kernel_rfl
        case a56s4 =>
          rintro L aa w h0 _ ⟨v37, v38, v39, v40, v41, v42, v43, v44, v45, v46, v47, v48, v49, v50, rfl, hY, hW, hF⟩ K hK
          simp only [fr, List.foldl_cons, List.foldl_nil, Act.put, List.setIfInBounds_toArray, List.set_cons_zero, List.set_cons_succ]
          go_simp
          exact hK _ _ ⟨v37, v38, v39, v40, (Value.pointer (some ⟨B, 2, none⟩)), v42, v43, v44, v45, v46, v47, v48, v49, v50, (by (simp only [fr, List.foldl_cons, List.foldl_nil, Act.put, List.setIfInBounds_toArray, List.set_cons_zero, List.set_cons_succ]); try rfl), hY, hW, hF.1, hF.2.1, hF.2.2.1, hF.2.2.2.1, Lib.hid (fun _ => rfl), hF.2.2.2.2.2.1, hF.2.2.2.2.2.2.1, hF.2.2.2.2.2.2.2.1, hF.2.2.2.2.2.2.2.2.1, hF.2.2.2.2.2.2.2.2.2.1, hF.2.2.2.2.2.2.2.2.2.2.1, hF.2.2.2.2.2.2.2.2.2.2.2.1, hF.2.2.2.2.2.2.2.2.2.2.2.2.1, hF.2.2.2.2.2.2.2.2.2.2.2.2.2⟩
        refine Steps.plain (i := 5) (o := ?a56o5) [4] ?a56h5 ?a56g5 ?a56d5 ?a56s5 ?a56r5
        case a56h5 => (simp only [List.getElem?_toArray, List.getElem?_cons_succ, List.getElem?_cons_zero]; rfl)
        case a56g5 => rfl
        case a56d5 => kernel_rfl
        case a56s5 =>
          rintro L aa w h0 ⟨e4, _⟩ ⟨v37, v38, v39, v40, v41, v42, v43, v44, v45, v46, v47, v48, v49, v50, rfl, hY, hW, hF⟩ K hK
          obtain rfl := (hF.2.2.2.2.1).out e4
          simp only [fr, List.foldl_cons, List.foldl_nil, Act.put, List.setIfInBounds_toArray, List.set_cons_zero, List.set_cons_succ]
          have x := (hW.out)
          have y : w.cell? ⟨B, 2, none⟩ = some (.slice (some ⟨gr, 0, none⟩) m c2) := by rcases h : L 14 with _ | _; exact only_cell (x.1 h).2 (V3b.out.cell 2) (fun h => h); exact only_cell (x.2 h).1 (V3b.out.cell 2) (fun e => hgr e.symm)
          clear x
          go_simp
          exact hK _ _ ⟨v37, v38, v39, v40, (Value.pointer (some ⟨B, 2, none⟩)), (Value.slice (some ⟨gr, 0, none⟩) m c2), v43, v44, v45, v46, v47, v48, v49, v50, (by (simp only [fr, List.foldl_cons, List.foldl_nil, Act.put, List.setIfInBounds_toArray, List.set_cons_zero, List.set_cons_succ]); try rfl), hY, hW, hF.1, hF.2.1, hF.2.2.1, hF.2.2.2.1, hF.2.2.2.2.1, Lib.hid (fun _ => rfl), hF.2.2.2.2.2.2.1, hF.2.2.2.2.2.2.2.1, hF.2.2.2.2.2.2.2.2.1, hF.2.2.2.2.2.2.2.2.2.1, hF.2.2.2.2.2.2.2.2.2.2.1, hF.2.2.2.2.2.2.2.2.2.2.2.1, hF.2.2.2.2.2.2.2.2.2.2.2.2.1, hF.2.2.2.2.2.2.2.2.2.2.2.2.2⟩
        refine Steps.plain (i := 6) (o := ?a56o6) [] ?a56h6 ?a56g6 ?a56d6 ?a56s6 ?a56r6
        case a56h6 => (simp only [List.getElem?_toArray, List.getElem?_cons_succ, List.getElem?_cons_zero]; rfl)
        case a56g6 => rfl
        case a56d6 => kernel_rfl
        case a56s6 =>
          rintro L aa w h0 _ ⟨v37, v38, v39, v40, v41, v42, v43, v44, v45, v46, v47, v48, v49, v50, rfl, hY, hW, hF⟩ K hK
          simp only [fr, List.foldl_cons, List.foldl_nil, Act.put, List.setIfInBounds_toArray, List.set_cons_zero, List.set_cons_succ]
          go_simp
          exact hK _ _ ⟨v37, v38, v39, v40, v41, v42, (Value.int .i64 ((j : Int) + 2)), v44, v45, v46, v47, v48, v49, v50, (by (simp only [fr, List.foldl_cons, List.foldl_nil, Act.put, List.setIfInBounds_toArray, List.set_cons_zero, List.set_cons_succ]); try rfl), hY, hW, hF.1, hF.2.1, hF.2.2.1, hF.2.2.2.1, hF.2.2.2.2.1, hF.2.2.2.2.2.1, Lib.hid (fun _ => rfl), hF.2.2.2.2.2.2.2.1, hF.2.2.2.2.2.2.2.2.1, hF.2.2.2.2.2.2.2.2.2.1, hF.2.2.2.2.2.2.2.2.2.2.1, hF.2.2.2.2.2.2.2.2.2.2.2.1, hF.2.2.2.2.2.2.2.2.2.2.2.2.1, hF.2.2.2.2.2.2.2.2.2.2.2.2.2⟩
        refine Steps.plain (i := 7) (o := ?a56o7) [6] ?a56h7 ?a56g7 ?a56d7 ?a56s7 ?a56r7
        case a56h7 => (simp only [List.getElem?_toArray, List.getElem?_cons_succ, List.getElem?_cons_zero]; rfl)
        case a56g7 => rfl
        case a56d7 => kernel_rfl
        case a56s7 =>
          rintro L aa w h0 ⟨e6, _⟩ ⟨v37, v38, v39, v40, v41, v42, v43, v44, v45, v46, v47, v48, v49, v50, rfl, hY, hW, hF⟩ K hK
          obtain rfl := (hF.2.2.2.2.2.2.1).out e6
          simp only [fr, List.foldl_cons, List.foldl_nil, Act.put, List.setIfInBounds_toArray, List.set_cons_zero, List.set_cons_succ]
          have x := E3.out
          go_simp
          exact hK _ _ ⟨v37, v38, v39, v40, v41, v42, (Value.int .i64 ((j : Int) + 2)), (Value.int .i64 j), v45, v46, v47, v48, v49, v50, (by (simp only [fr, List.foldl_cons, List.foldl_nil, Act.put, List.setIfInBounds_toArray, List.set_cons_zero, List.set_cons_succ]); try rfl), hY, hW, hF.1, hF.2.1, hF.2.2.1, hF.2.2.2.1, hF.2.2.2.2.1, hF.2.2.2.2.2.1, hF.2.2.2.2.2.2.1, Lib.hid (fun _ => rfl), hF.2.2.2.2.2.2.2.2.1, hF.2.2.2.2.2.2.2.2.2.1, hF.2.2.2.2.2.2.2.2.2.2.1, hF.2.2.2.2.2.2.2.2.2.2.2.1, hF.2.2.2.2.2.2.2.2.2.2.2.2.1, hF.2.2.2.2.2.2.2.2.2.2.2.2.2⟩
        refine Steps.plain (i := 8) (o := ?a56o8) [5, 7] ?a56h8 ?a56g8 ?a56d8 ?a56s8 ?a56r8
        case a56h8 => (simp only [List.getElem?_toArray, List.getElem?_cons_succ, List.getElem?_cons_zero]; rfl)
        case a56g8 => rfl
        case a56d8 => kernel_rfl
        case a56s8 =>
          rintro L aa w h0 ⟨e5, e7, _⟩ ⟨v37, v38, v39, v40, v41, v42, v43, v44, v45, v46, v47, v48, v49, v50, rfl, hY, hW, hF⟩ K hK
          obtain rfl := (hF.2.2.2.2.2.1).out e5
          obtain rfl := (hF.2.2.2.2.2.2.2.1).out e7
          simp only [fr, List.foldl_cons, List.foldl_nil, Act.put, List.setIfInBounds_toArray, List.set_cons_zero, List.set_cons_succ]
          obtain ⟨x1, x2⟩ := E8.out
          go_simp
          exact hK _ _ ⟨v37, v38, v39, v40, v41, (Value.slice (some ⟨gr, 0, none⟩) m c2), v43, (Value.int .i64 j), (Value.pointer (some ⟨gr, j, none⟩)), v46, v47, v48, v49, v50, (by (simp only [fr, List.foldl_cons, List.foldl_nil, Act.put, List.setIfInBounds_toArray, List.set_cons_zero, List.set_cons_succ]); try rfl), hY, hW, hF.1, hF.2.1, hF.2.2.1, hF.2.2.2.1, hF.2.2.2.2.1, hF.2.2.2.2.2.1, hF.2.2.2.2.2.2.1, hF.2.2.2.2.2.2.2.1, Lib.hid (fun _ => rfl), hF.2.2.2.2.2.2.2.2.2.1, hF.2.2.2.2.2.2.2.2.2.2.1, hF.2.2.2.2.2.2.2.2.2.2.2.1, hF.2.2.2.2.2.2.2.2.2.2.2.2.1, hF.2.2.2.2.2.2.2.2.2.2.2.2.2⟩
        refine Steps.plain (i := 9) (o := ?a56o9) [8] ?a56h9 ?a56g9 ?a56d9 ?a56s9 ?a56r9
        case a56h9 => (simp only [List.getElem?_toArray, List.getElem?_cons_succ, List.getElem?_cons_zero]; rfl)
        case a56g9 => rfl
        case a56d9 => kernel_rfl
        case a56s9 =>
          rintro L aa w h0 ⟨e8, _⟩ ⟨v37, v38, v39, v40, v41, v42, v43, v44, v45, v46, v47, v48, v49, v50, rfl, hY, hW, hF⟩ K hK
          obtain rfl := (hF.2.2.2.2.2.2.2.2.1).out e8
          simp only [fr, List.foldl_cons, List.foldl_nil, Act.put, List.setIfInBounds_toArray, List.set_cons_zero, List.set_cons_succ]
          have e14 : L 14 = false := by rcases h : L 14 with _ | _ <;> first | rfl | exact absurd (hY h) (by simp [h0])
          have y := only_cell (hW.out.1 e14).2 hcj (fun h => h)
          go_simp
          exact hK _ _ ⟨v37, v38, v39, v40, v41, v42, v43, v44, (Value.pointer (some ⟨gr, j, none⟩)), (Value.int .u64 pj), v47, v48, v49, v50, (by (simp only [fr, List.foldl_cons, List.foldl_nil, Act.put, List.setIfInBounds_toArray, List.set_cons_zero, List.set_cons_succ]); try rfl), fun _ => rfl, hW, hF.1, hF.2.1, hF.2.2.1, hF.2.2.2.1, hF.2.2.2.2.1, hF.2.2.2.2.2.1, hF.2.2.2.2.2.2.1, hF.2.2.2.2.2.2.2.1, hF.2.2.2.2.2.2.2.2.1, Lib.hid (fun _ => rfl), hF.2.2.2.2.2.2.2.2.2.2.1, hF.2.2.2.2.2.2.2.2.2.2.2.1, hF.2.2.2.2.2.2.2.2.2.2.2.2.1, hF.2.2.2.2.2.2.2.2.2.2.2.2.2⟩
        refine Steps.plain (i := 10) (o := ?a56o10) [] ?a56h10 ?a56g10 ?a56d10 ?a56s10 ?a56r10
        case a56h10 => (simp only [List.getElem?_toArray, List.getElem?_cons_succ, List.getElem?_cons_zero]; rfl)
        case a56g10 => rfl
        case a56d10 => kernel_rfl
        case a56s10 =>
          rintro L aa w h0 _ ⟨v37, v38, v39, v40, v41, v42, v43, v44, v45, v46, v47, v48, v49, v50, rfl, hY, hW, hF⟩ K hK
          simp only [fr, List.foldl_cons, List.foldl_nil, Act.put, List.setIfInBounds_toArray, List.set_cons_zero, List.set_cons_succ]
          go_simp
          exact hK _ _ ⟨v37, v38, v39, v40, v41, v42, v43, v44, v45, v46, (Value.int .i64 (1 + d)), v48, v49, v50, (by (simp only [fr, List.foldl_cons, List.foldl_nil, Act.put, List.setIfInBounds_toArray, List.set_cons_zero, List.set_cons_succ]); try rfl), hY, hW, hF.1, hF.2.1, hF.2.2.1, hF.2.2.2.1, hF.2.2.2.2.1, hF.2.2.2.2.2.1, hF.2.2.2.2.2.2.1, hF.2.2.2.2.2.2.2.1, hF.2.2.2.2.2.2.2.2.1, hF.2.2.2.2.2.2.2.2.2.1, Lib.hid (fun _ => rfl), hF.2.2.2.2.2.2.2.2.2.2.2.1, hF.2.2.2.2.2.2.2.2.2.2.2.2.1, hF.2.2.2.2.2.2.2.2.2.2.2.2.2⟩
        refine Steps.plain (i := 11) (o := ?a56o11) [10] ?a56h11 ?a56g11 ?a56d11 ?a56s11 ?a56r11
        case a56h11 => (simp only [List.getElem?_toArray, List.getElem?_cons_succ, List.getElem?_cons_zero]; rfl)
        case a56g11 => rfl
        case a56d11 => kernel_rfl
        case a56s11 =>
          rintro L aa w h0 ⟨e10, _⟩ ⟨v37, v38, v39, v40, v41, v42, v43, v44, v45, v46, v47, v48, v49, v50, rfl, hY, hW, hF⟩ K hK
          obtain rfl := (hF.2.2.2.2.2.2.2.2.2.2.1).out e10
          simp only [fr, List.foldl_cons, List.foldl_nil, Act.put, List.setIfInBounds_toArray, List.set_cons_zero, List.set_cons_succ]
          have x := E11.out
          go_simp
          exact hK _ _ ⟨v37, v38, v39, v40, v41, v42, v43, v44, v45, v46, (Value.int .i64 (1 + d)), (Value.int .u64 (1 + d)), v49, v50, (by (simp only [fr, List.foldl_cons, List.foldl_nil, Act.put, List.setIfInBounds_toArray, List.set_cons_zero, List.set_cons_succ]); try rfl), hY, hW, hF.1, hF.2.1, hF.2.2.1, hF.2.2.2.1, hF.2.2.2.2.1, hF.2.2.2.2.2.1, hF.2.2.2.2.2.2.1, hF.2.2.2.2.2.2.2.1, hF.2.2.2.2.2.2.2.2.1, hF.2.2.2.2.2.2.2.2.2.1, hF.2.2.2.2.2.2.2.2.2.2.1, Lib.hid (fun _ => rfl), hF.2.2.2.2.2.2.2.2.2.2.2.2.1, hF.2.2.2.2.2.2.2.2.2.2.2.2.2⟩
        refine Steps.plain (i := 12) (o := ?a56o12) [9, 11] ?a56h12 ?a56g12 ?a56d12 ?a56s12 ?a56r12
        case a56h12 => (simp only [List.getElem?_toArray, List.getElem?_cons_succ, List.getElem?_cons_zero]; rfl)
        case a56g12 => rfl
        case a56d12 => kernel_rfl
        case a56s12 =>
          rintro L aa w h0 ⟨e9, e11, _⟩ ⟨v37, v38, v39, v40, v41, v42, v43, v44, v45, v46, v47, v48, v49, v50, rfl, hY, hW, hF⟩ K hK
          obtain rfl := (hF.2.2.2.2.2.2.2.2.2.1).out e9
          obtain rfl := (hF.2.2.2.2.2.2.2.2.2.2.2.1).out e11
          simp only [fr, List.foldl_cons, List.foldl_nil, Act.put, List.setIfInBounds_toArray, List.set_cons_zero, List.set_cons_succ]
          go_simp
          exact hK _ _ ⟨v37, v38, v39, v40, v41, v42, v43, v44, v45, (Value.int .u64 pj), v47, (Value.int .u64 (1 + d)), (Value.int .u64 (u64w (pj + (1 + d)))), v50, (by (simp only [fr, List.foldl_cons, List.foldl_nil, Act.put, List.setIfInBounds_toArray, List.set_cons_zero, List.set_cons_succ]); try rfl), hY, hW, hF.1, hF.2.1, hF.2.2.1, hF.2.2.2.1, hF.2.2.2.2.1, hF.2.2.2.2.2.1, hF.2.2.2.2.2.2.1, hF.2.2.2.2.2.2.2.1, hF.2.2.2.2.2.2.2.2.1, hF.2.2.2.2.2.2.2.2.2.1, hF.2.2.2.2.2.2.2.2.2.2.1, hF.2.2.2.2.2.2.2.2.2.2.2.1, Lib.hid (fun _ => rfl), hF.2.2.2.2.2.2.2.2.2.2.2.2.2⟩
        refine Steps.plain (i := 13) (o := ?a56o13) [1, 3] ?a56h13 ?a56g13 ?a56d13 ?a56s13 ?a56r13
        case a56h13 => (simp only [List.getElem?_toArray, List.getElem?_cons_succ, List.getElem?_cons_zero]; rfl)
        case a56g13 => rfl
        case a56d13 => kernel_rfl
        case a56s13 =>
          rintro L aa w h0 ⟨e1, e3, _⟩ ⟨v37, v38, v39, v40, v41, v42, v43, v44, v45, v46, v47, v48, v49, v50, rfl, hY, hW, hF⟩ K hK
          obtain rfl := (hF.2.1).out e1
          obtain rfl := (hF.2.2.2.1).out e3
          simp only [fr, List.foldl_cons, List.foldl_nil, Act.put, List.setIfInBounds_toArray, List.set_cons_zero, List.set_cons_succ]
          obtain ⟨x1, x2⟩ := E8.out
          go_simp
          exact hK _ _ ⟨v37, (Value.slice (some ⟨gr, 0, none⟩) m c2), v39, (Value.int .i64 j), v41, v42, v43, v44, v45, v46, v47, v48, v49, (Value.pointer (some ⟨gr, j, none⟩)), (by (simp only [fr, List.foldl_cons, List.foldl_nil, Act.put, List.setIfInBounds_toArray, List.set_cons_zero, List.set_cons_succ]); try rfl), hY, hW, hF.1, hF.2.1, hF.2.2.1, hF.2.2.2.1, hF.2.2.2.2.1, hF.2.2.2.2.2.1, hF.2.2.2.2.2.2.1, hF.2.2.2.2.2.2.2.1, hF.2.2.2.2.2.2.2.2.1, hF.2.2.2.2.2.2.2.2.2.1, hF.2.2.2.2.2.2.2.2.2.2.1, hF.2.2.2.2.2.2.2.2.2.2.2.1, hF.2.2.2.2.2.2.2.2.2.2.2.2.1, Lib.hid (fun _ => rfl)⟩
        refine Steps.plain (i := 14) (o := ?a56o14) [9, 12, 13] ?a56h14 ?a56g14 ?a56d14 ?a56s14 ?a56r14
        case a56h14 => (simp only [List.getElem?_toArray, List.getElem?_cons_succ, List.getElem?_cons_zero]; rfl)
        case a56g14 => rfl
        case a56d14 => kernel_rfl
        case a56s14 =>
          rintro L aa w h0 ⟨e9, e12, e13, _⟩ ⟨v37, v38, v39, v40, v41, v42, v43, v44, v45, v46, v47, v48, v49, v50, rfl, hY, hW, hF⟩ K hK
          obtain rfl := (hF.2.2.2.2.2.2.2.2.2.1).out e9
          obtain rfl := (hF.2.2.2.2.2.2.2.2.2.2.2.2.1).out e12
          obtain rfl := (hF.2.2.2.2.2.2.2.2.2.2.2.2.2).out e13
          simp only [fr, List.foldl_cons, List.foldl_nil, Act.put, List.setIfInBounds_toArray, List.set_cons_zero, List.set_cons_succ]
          have x := (hW.out.1 h0).2
          have HX := Lib.hid x
          have y := only_cell x hcj (fun h => h)
          have y1 : w.frozen? ⟨gr, j, none⟩ = false := (World.frozen?_of_block (w := Z) (a := ⟨gr, j, none⟩) (x.heap (World.block_lt_of_cell? Z _ hcj) (fun h => h))).trans hfj
          clear x
          go_simp
          exact hK _ _ ⟨v37, v38, v39, v40, v41, v42, v43, v44, v45, (Value.int .u64 pj), v47, v48, (Value.int .u64 (u64w (pj + (1 + d)))), (Value.pointer (some ⟨gr, j, none⟩)), (by (simp only [fr, List.foldl_cons, List.foldl_nil, Act.put, List.setIfInBounds_toArray, List.set_cons_zero, List.set_cons_succ]); try rfl), fun _ => e9, Lib.hid ⟨(fun h => by cases h), fun _ => ⟨o_set (HX.out.mono (fun _ _ h => h.elim)) _ _, by rw [List.map_set]; exact own_set (own_only OW.out HX.out (fun _ _ h => h)) _ _⟩⟩, hF.1, hF.2.1, hF.2.2.1, hF.2.2.2.1, hF.2.2.2.2.1, hF.2.2.2.2.2.1, hF.2.2.2.2.2.2.1, hF.2.2.2.2.2.2.2.1, hF.2.2.2.2.2.2.2.2.1, hF.2.2.2.2.2.2.2.2.2.1, hF.2.2.2.2.2.2.2.2.2.2.1, hF.2.2.2.2.2.2.2.2.2.2.2.1, hF.2.2.2.2.2.2.2.2.2.2.2.2.1, hF.2.2.2.2.2.2.2.2.2.2.2.2.2⟩
        exact Steps.nil
      case a56D =>
        rintro L aa w hL ⟨v37, v38, v39, v40, v41, v42, v43, v44, v45, v46, v47, v48, v49, v50, rfl, hY, hW, hF⟩
        obtain rfl := (hF.1).out (hL 0 (by decide))
        obtain rfl := (hF.2.1).out (hL 1 (by decide))
        obtain rfl := (hF.2.2.1).out (hL 2 (by decide))
        obtain rfl := (hF.2.2.2.1).out (hL 3 (by decide))
        obtain rfl := (hF.2.2.2.2.1).out (hL 4 (by decide))
        obtain rfl := (hF.2.2.2.2.2.1).out (hL 5 (by decide))
        obtain rfl := (hF.2.2.2.2.2.2.1).out (hL 6 (by decide))
        obtain rfl := (hF.2.2.2.2.2.2.2.1).out (hL 7 (by decide))
        obtain rfl := (hF.2.2.2.2.2.2.2.2.1).out (hL 8 (by decide))
        obtain rfl := (hF.2.2.2.2.2.2.2.2.2.1).out (hL 9 (by decide))
        obtain rfl := (hF.2.2.2.2.2.2.2.2.2.2.1).out (hL 10 (by decide))
        obtain rfl := (hF.2.2.2.2.2.2.2.2.2.2.2.1).out (hL 11 (by decide))
        obtain rfl := (hF.2.2.2.2.2.2.2.2.2.2.2.2.1).out (hL 12 (by decide))
        obtain rfl := (hF.2.2.2.2.2.2.2.2.2.2.2.2.2).out (hL 13 (by decide))
        have l0 := hL 0 (by decide)
        have l1 := hL 1 (by decide)
        have l2 := hL 2 (by decide)
        have l3 := hL 3 (by decide)
        have l4 := hL 4 (by decide)
        have l5 := hL 5 (by decide)
        have l6 := hL 6 (by decide)
        have l7 := hL 7 (by decide)
        have l8 := hL 8 (by decide)
        have l9 := hL 9 (by decide)
        have l10 := hL 10 (by decide)
        have l11 := hL 11 (by decide)
        have l12 := hL 12 (by decide)
        have l13 := hL 13 (by decide)
        have l14 := hL 14 (by decide)
        clear hL
        simp only [fr, List.foldl_cons, List.foldl_nil, Act.put, List.setIfInBounds_toArray, List.set_cons_zero, List.set_cons_succ]
        obtain ⟨o9, ow9⟩ := hW.out.2 l14
        have V3b := Lib.hid (V3b.out.only o9 (fun e => hgr e.symm))
        have V6b := Lib.hid (V6b.out.only o9 (fun e => by have := HR.out gr (by simp [Value.ownBlock]); omega))
        have OW := Lib.hid ow9
        have HB2 := Lib.hid (HB2.out.trans (o9.below (B := W0.heap.size) HB2.out.size (fun x e => by have := HR.out gr (by simp [Value.ownBlock]); have := HB0.out; omega)))
        clear hW hY ow9 hcj hfj OWS
        go_upto_region 9 with (fail)
        refine name_world ?_
        intro Y hY
        have OY : Only (fun x => x = B ∨ (Value.slice (some ⟨gr, 0, none⟩) m c2).ownBlock = some x) w Y := by rw [hY]; exact Only.refl _ _
        have VY := Lib.hid (show Vr Y B 25 #[.int .i64 (ix), .int .i64 (v), .slice (some ⟨gr, 0, none⟩) m c2] from by rw [hY]; exact V3b.out)
        have WY := Lib.hid (V6b.out.only OY (by rintro (h | h); omega; have := HR.out _ h; omega))
        have PY := Lib.hid (show Y.ownsRow B 22 1 (.slice (some ⟨gr, 0, none⟩) m c2) m ((prf.set j (u64w (pj + (1 + d)))).map (Value.int .u64)) from by rw [hY]; exact OW.out)
        have BY := Lib.hid (HB2.out.trans (OY.below (B := W0.heap.size) HB2.out.size (fun x h => by have := HB0.out; rcases h with h | h; omega; have := HR.out _ h; omega)))
        obtain ⟨u1, u2, u3⟩ := VY.out.facts
        obtain ⟨z1, z2, z3⟩ := WY.out.facts
        have hbb : ¬ B + 1 = B := by omega
        clear hY OY 
        go_wp2
        refine name_post ?_
        intro Z hZ
        have VZ := vr_set3 WY.out (.int .i64 (ix)) (.int .i64 (v)) (.slice (some ⟨gr, 0, none⟩) m c2)
        have OZ : Only (· = B + 1) Y Z := by rw [hZ]; exact o_set (o_set (o_set (Only.refl _ _) _ _) _ _) _ _
        rw [← hZ] at VZ
        obtain ⟨x1, x2, x3⟩ := VZ.facts
        have hbZ := BY.out.trans (OZ.below (B := W0.heap.size) BY.out.size (fun x e => by have := HB0.out; omega))
        have hoZ := own_only PY.out OZ (fun x e h => by have := HR.out x e; omega)
        rw [← HB0.out] at hoZ
        clear hZ
        refine bodyPost_ret (v := .agg #[.int .i64 (ix), .int .i64 (v), .slice (some ⟨gr, 0, none⟩) m c2]) (by simp [results, Try.results14, go_sem, x2]) rfl ?_
        rw [bentOf_2, HPJ.out]
        exact ⟨(some ⟨gr, 0, none⟩), c2, by rw [List.length_set, HL.out], by rw [List.length_set, HL.out]; exact hoZ, by rw [List.length_set, HL.out]; exact g1, g2, hbZ⟩
end Go.Proofs.Ytgelhcgaacnjcaa
