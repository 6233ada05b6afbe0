/-
  WHAT IS PROVED HERE: every proof that Prove answers verifies; the contract of the law's lives. No condition.
-/
import Derived.Test.YtgelhcgaacnjcaaMkL
import Derived.Test.YtgelhcgaacnjcaaAny2
namespace Go.Proofs.Ytgelhcgaacnjcaa
set_option linter.unusedVariables false
open Go.ChangeShapes Go.WideShapes Go.ChangeAt Go.RowKit

theorem phs_prf (cs : List Int) (i h : Nat) (hi : i < cs.length) : ∀ k, k ≤ h → phs (prfV cs i (List.range h)) i (leafI i cs[i]) (List.range k) = nV cs k (i / 2 ^ k)
  | 0, _ => by
    show leafI i cs[i] = lfV cs (i / 2 ^ 0)
    simp [lfV, hi]
  | k + 1, hk => by
    rw [List.range_succ, phs_snoc, phs_prf cs i h hi k (by omega)]
    have : (prfV cs i (List.range h)).getD k 0 = nV cs k (sib (i / 2 ^ k)) := by
      simp [prfV, List.getD, show k < h by omega]
    rw [this, jn_node, half_shift]
theorem verB_prf (cs : List Int) (i : Nat) (hi : i < cs.length) : verB (nV cs (hgt cs.length) 0) (cs.length : Nat) i cs[i] (prfV cs i (List.range (hgt cs.length))) = true := by
  rw [verB_yes (by simp [prfV_len]; omega)]
  simp only [Int.toNat_natCast]
  rw [phs_prf cs i _ hi _ (Nat.le_refl _)]
  have : i / 2 ^ hgt cs.length = 0 := Nat.div_eq_of_lt (Nat.lt_of_lt_of_le hi (hgt_ge _))
  rw [this]
  simp
theorem hgt1 : hgt 1 = 0 := hgt_small (by omega)
theorem hgt3 : hgt 3 = 2 := by
  have h1 : hgt 3 ≤ 2 := hgt_min (by omega)
  have h2 := hgt_ge 3
  rcases Nat.lt_or_ge (hgt 3) 2 with h | h
  · have := Nat.pow_le_pow_right (n := 2) (by omega) (show hgt 3 ≤ 1 by omega)
    omega
  · omega
theorem leafsum_any (w : World) : Calls Try.prog 41 #[.string leafTxt, .slice (some ⟨w.heap.size, 0, none⟩) 2 2] (w.alloc (.cells #[.int .i64 0, .int .i64 7] 3)) fun e w' => e = .returned (.int .u64 (leafI 0 7)) ∧ Below w.heap.size w w' := by
  refine (sum_any leafTxt (by decide) _ 2 2 [0, 7] _ (rd_lit _ _ _ rfl rfl) (by omega)).mono ?_
  rintro e w1 ⟨rfl, hb1⟩
  exact ⟨by unfold leafI; rfl, by (repeat (first | (with_reducible exact Below.refl _ _) | (with_reducible assumption) | (with_reducible refine b_drew ?_) | (with_reducible refine b_drewN ?_ _) | (with_reducible refine b_alloc ?_ _) | ((with_reducible refine b_set ?_ ?_ _); rotate_left; (focus (first | omega | (simp; done) | (simp; omega) | (simp at *; omega)))) | (with_reducible refine b_call ?_ (by with_reducible assumption))))⟩
set_option maxRecDepth 100000 in
set_option maxHeartbeats 4000000 in
theorem lives_any (w : World) : Calls Try.prog 18 #[] w fun e w' => e = .returned (.bool true) ∧ Below w.heap.size w w' := by
  go_enter Try.func18, Try.ntmps18
  go_wp2_with fail
  refine (new_any _ 1 1 [7] _ (rd_lit _ _ _ rfl rfl) (by omega)).mono ?_
  rintro e w1 ⟨g1, bc1, bn1, f1, rfl, T1, n1, hb1⟩
  have HB1 := Lib.hid (show Below w.heap.size w w1 from by (repeat (first | (with_reducible exact Below.refl _ _) | (with_reducible assumption) | (with_reducible refine b_drew ?_) | (with_reducible refine b_drewN ?_ _) | (with_reducible refine b_alloc ?_ _) | ((with_reducible refine b_set ?_ ?_ _); rotate_left; (focus (first | omega | (simp; done) | (simp; omega) | (simp at *; omega)))) | (with_reducible refine b_call ?_ (by with_reducible assumption)))))
  have HT1 := Lib.hid T1
  clear T1 n1 hb1
  go_wp2_with fail
  refine (new_any _ 3 3 [7, 8, 9] _ (rd_lit _ _ _ rfl rfl) (by omega)).mono ?_
  rintro e w2 ⟨g2, bc2, bn2, f2, rfl, T2, n2, hb2⟩
  have hb2' : Below w1.heap.size w1 w2 := by (repeat (first | (with_reducible exact Below.refl _ _) | (with_reducible assumption) | (with_reducible refine b_drew ?_) | (with_reducible refine b_drewN ?_ _) | (with_reducible refine b_alloc ?_ _) | ((with_reducible refine b_set ?_ ?_ _); rotate_left; (focus (first | omega | (simp; done) | (simp; omega) | (simp at *; omega)))) | (with_reducible refine b_call ?_ (by with_reducible assumption))))
  have HB2 := Lib.hid (b_call HB1.out hb2')
  have HT1 := Lib.hid (HT1.out.call hb2')
  have HT2 := Lib.hid T2
  clear T2 n2 hb2 hb2'
  go_wp2_with fail
  refine (prove_any g2 bc2 bn2 [7, 8, 9] f2 2 _ HT2.out).mono ?_
  rintro e w3 ⟨A3, c3, rfl, o3, h3, h3', hb3⟩
  have HT1 := Lib.hid (HT1.out.call hb3)
  have HT2 := Lib.hid (HT2.out.call hb3)
  have HB3 := Lib.hid (b_call HB2.out hb3)
  have EL : lfOf [7, 8, 9] 2 = (2, 9, prfV [7, 8, 9] 2 (List.range 2)) := by
    unfold lfOf
    rw [dif_pos (by simp)]
    show (_, _, prfV _ _ (List.range (hgt 3))) = _
    rw [hgt3]
    rfl
  rw [EL] at o3 h3 ⊢
  have HO3 := Lib.hid (rd_own o3)
  have HV := Lib.hid (show verB (nV [7, 8, 9] 2 0) 3 2 9 (prfV [7, 8, 9] 2 (List.range 2)) = true from by
    have : verB (nV [7, 8, 9] (hgt 3) 0) 3 2 9 (prfV [7, 8, 9] 2 (List.range (hgt 3))) = true := verB_prf [7, 8, 9] 2 (by simp)
    rw [hgt3] at this
    exact this)
  clear hb3 o3 h3 h3' EL
  go_wp2
  refine name_world ?_
  intro X hX
  obtain ⟨bx, hbx⟩ : ∃ x, w3.heap.size = x := ⟨_, rfl⟩
  have hbX : Below w3.heap.size w3 X := by rw [hX]; (repeat (first | (with_reducible exact Below.refl _ _) | (with_reducible assumption) | (with_reducible refine b_drew ?_) | (with_reducible refine b_drewN ?_ _) | (with_reducible refine b_alloc ?_ _) | ((with_reducible refine b_set ?_ ?_ _); rotate_left; (focus (first | omega | (simp; done) | (simp; omega) | (simp at *; omega)))) | (with_reducible refine b_call ?_ (by with_reducible assumption))))
  have VX := Lib.hid (show Vr X bx 25 #[.int .i64 2, .int .i64 9, .slice A3 2 c3] from by rw [hX, ← hbx]; exact Vr.new w3 _ _)
  have HT1 := Lib.hid (HT1.out.call hbX)
  have HT2 := Lib.hid (HT2.out.call hbX)
  have HBX := Lib.hid (b_call HB3.out hbX)
  have HRX := Lib.hid (rd_step HO3.out hbX)
  rw [hbx]
  clear hX hbx hbX HO3
  have EL1 : lfOf [7] 0 = (0, 7, []) := by
    unfold lfOf
    rw [dif_pos (by simp)]
    show (_, _, prfV _ _ (List.range (hgt 1))) = _
    rw [hgt1]
    rfl
  have HP1 := Lib.hid (fun (w : World) (H : Tr w g1 bc1 bn1 [7] f1) => prove_any g1 bc1 bn1 [7] f1 0 w H)
  rw [EL1] at HP1
  have ER : nV [7] (hgt ([7] : List Int).length) 0 = leafI 0 7 := by
    show nV [7] (hgt 1) 0 = _
    rw [hgt1]
    rfl
  have ER2 : nV [7, 8, 9] (hgt ([7, 8, 9] : List Int).length) 0 = nV [7, 8, 9] 2 0 := by
    show nV [7, 8, 9] (hgt 3) 0 = _
    rw [hgt3]
  have HR1 := Lib.hid (fun (w : World) (H : Tr w g1 bc1 bn1 [7] f1) => troot_any H)
  have HR2 := Lib.hid (fun (w : World) (H : Tr w g2 bc2 bn2 [7, 8, 9] f2) => troot_any H)
  rw [ER] at HR1
  rw [ER2] at HR2
  have HQ := Lib.hid (fun (w : World) => sum_any leafTxt (by decide) (n := 2) (c := 2) (l := [0, 7]) (w := w) (hn := by omega))
  rw [show sumI (txt leafTxt) [0, 7] = leafI 0 7 from by unfold leafI; rfl] at HQ
  obtain ⟨r1, hr1⟩ : ∃ r, leafI 0 7 = r := ⟨_, rfl⟩
  obtain ⟨r2, hr2⟩ : ∃ r, nV [7, 8, 9] 2 0 = r := ⟨_, rfl⟩
  obtain ⟨pf, hpf⟩ : ∃ r, prfV [7, 8, 9] 2 (List.range 2) = r := ⟨_, rfl⟩
  have hpl : pf.length = 2 := by rw [← hpf, prfV_len]; rfl
  rw [hr1] at HR1 HQ
  rw [hr2] at HR2 HV
  rw [hpf] at HV HRX
  rw [hpl] at HRX
  clear EL1 ER ER2 hr1 hr2 hpf hpl
  refine wp_region_any (by kernel_rfl) ?_
  change wpAny _ _ _ _ _ _ _ (World.drew _)
  refine take_at (i := 0) (some 16) (v := ?vg55) rfl rfl (by kernel_rfl) (by kernel_rfl) (by kernel_rfl) (fun _ _ _ h => h) (Or.inl ⟨by rfl, ?hg55⟩) ?rg55
  case hg55 => (intro w0; go_simp; try with_reducible rfl)
  simp only [Act.put, List.setIfInBounds_toArray, List.set_cons_zero, List.set_cons_succ]
  refine wpAny_go (fun A0 L aa w => ∃ (v17 v18 v19 v20 v21 v22 v23 v24 v25 v26 v27 v28 v29 v30 v31 v32 v33 v34 v35 v36 v37 v38 v39 v0 : Value) (Ax : Option Addr) (cx : Nat) (b8 : Nat), aa = fr A0 [(17, v17), (18, v18), (19, v19), (20, v20), (21, v21), (22, v22), (23, v23), (24, v24), (25, v25), (26, v26), (27, v27), (28, v28), (29, v29), (30, v30), (31, v31), (32, v32), (33, v33), (34, v34), (35, v35), (36, v36), (37, v37), (38, v38), (39, v39), (0, v0)] ∧ (Below X.heap.size X w) ∧ ((L 2 = true → L 1 = true) ∧ (L 9 = true → L 8 = true)) ∧ (Hid (L 8 = true → Vr w b8 3 #[.int .i64 0, .int .i64 7])) ∧ Hid (L 1 = true → v17 = Value.agg #[.int .i64 0, .int .i64 7, .slice Ax 0 cx]) ∧ Hid (L 2 = true → v18 = Value.slice Ax 0 cx) ∧ Hid (L 3 = true → v19 = Value.int .i64 0) ∧ Hid (L 4 = true → v20 = Value.bool true) ∧ Hid (L 5 = true → v21 = Value.bool true) ∧ Hid (L 6 = true → v22 = Value.pointer (some ⟨g1, 0, none⟩)) ∧ Hid (L 7 = true → v23 = Value.int .u64 r1) ∧ Hid (L 8 = true → v24 = Value.slice (some ⟨b8, 0, none⟩) 2 2) ∧ Hid (L 9 = true → v25 = Value.int .u64 r1) ∧ Hid (L 10 = true → v26 = Value.bool true) ∧ Hid (L 11 = true → v27 = Value.bool true) ∧ Hid (L 12 = true → v28 = Value.bool true) ∧ Hid (L 13 = true → v29 = Value.pointer (some ⟨bx, 2, none⟩)) ∧ Hid (L 14 = true → v30 = Value.slice A3 2 c3) ∧ Hid (L 15 = true → v31 = Value.int .i64 2) ∧ Hid (L 16 = true → v32 = Value.bool true) ∧ Hid (L 17 = true → v33 = Value.bool true) ∧ Hid (L 18 = true → v34 = Value.bool true) ∧ Hid (L 19 = true → v35 = Value.pointer (some ⟨g2, 0, none⟩)) ∧ Hid (L 20 = true → v36 = Value.int .u64 r2) ∧ Hid (L 21 = true → v37 = Value.agg #[.int .i64 2, .int .i64 9, .slice A3 2 c3]) ∧ Hid (L 22 = true → v38 = Value.bool true) ∧ Hid (L 23 = true → v39 = Value.bool true) ∧ Hid (L 24 = true → v0 = Value.bool true)) [1, 2, 3, 4, 5, 6, 7, 8, 9, 10, 11, 12, 13, 14, 15, 16, 17, 18, 19, 20, 21, 22, 23, 24] (by kernel_rfl) (by kernel_rfl) ?a54I ?a54S ?a54D
  case a54I =>
    refine ⟨?a54v17, ?a54v18, ?a54v19, ?a54v20, ?a54v21, ?a54v22, ?a54v23, ?a54v24, ?a54v25, ?a54v26, ?a54v27, ?a54v28, ?a54v29, ?a54v30, ?a54v31, ?a54v32, ?a54v33, ?a54v34, ?a54v35, ?a54v36, ?a54v37, ?a54v38, ?a54v39, ?a54v0, none, 0, 0, ?a54fr, b_drew (Below.refl _ _), ⟨no_yet (by kernel_rfl), no_yet (by kernel_rfl)⟩, Lib.hid (no_yet (by kernel_rfl)), Lib.hid (no_yet (by kernel_rfl)), Lib.hid (no_yet (by kernel_rfl)), Lib.hid (no_yet (by kernel_rfl)), Lib.hid (no_yet (by kernel_rfl)), Lib.hid (no_yet (by kernel_rfl)), Lib.hid (no_yet (by kernel_rfl)), Lib.hid (no_yet (by kernel_rfl)), Lib.hid (no_yet (by kernel_rfl)), Lib.hid (no_yet (by kernel_rfl)), Lib.hid (no_yet (by kernel_rfl)), Lib.hid (no_yet (by kernel_rfl)), Lib.hid (no_yet (by kernel_rfl)), Lib.hid (no_yet (by kernel_rfl)), Lib.hid (no_yet (by kernel_rfl)), Lib.hid (no_yet (by kernel_rfl)), Lib.hid (no_yet (by kernel_rfl)), Lib.hid (no_yet (by kernel_rfl)), Lib.hid (no_yet (by kernel_rfl)), Lib.hid (no_yet (by kernel_rfl)), Lib.hid (no_yet (by kernel_rfl)), Lib.hid (no_yet (by kernel_rfl)), Lib.hid (no_yet (by kernel_rfl)), Lib.hid (no_yet (by kernel_rfl)), Lib.hid (no_yet (by kernel_rfl))⟩
    case a54fr => (simp only [fr, List.foldl_cons, List.foldl_nil, Act.put, List.setIfInBounds_toArray, List.set_cons_zero, List.set_cons_succ]; rfl)
  case a54S =>
    refine Steps.plain (i := 1) (o := ?a54o1) [] ?a54h1 ?a54g1 ?a54d1 ?a54s1 ?a54r1
    case a54h1 => (simp only [List.getElem?_toArray, List.getElem?_cons_succ, List.getElem?_cons_zero]; rfl)
    case a54g1 => rfl
    case a54d1 => kernel_rfl
    case a54s1 =>
      rintro L aa w h0 _ ⟨v17, v18, v19, v20, v21, v22, v23, v24, v25, v26, v27, v28, v29, v30, v31, v32, v33, v34, v35, v36, v37, v38, v39, v0, Ax, cx, b8, rfl, hB, hY, h8, hF⟩ K hK
      simp only [fr, List.foldl_cons, List.foldl_nil, Act.put, List.setIfInBounds_toArray, List.set_cons_zero, List.set_cons_succ]
      go_simp
      have e2 : L 2 = false := by rcases h : L 2 with _ | _ <;> first | rfl | exact absurd (hY.1 h) (by simp [h0])
      refine (HP1.out _ (HT1.out.call hB)).mono ?_
      rintro e w5 ⟨A4, c4, rfl, _, _, _, hb5⟩
      exact hK _ _ ⟨(Value.agg #[.int .i64 0, .int .i64 7, .slice (A4) 0 (c4)]), v18, v19, v20, v21, v22, v23, v24, v25, v26, v27, v28, v29, v30, v31, v32, v33, v34, v35, v36, v37, v38, v39, v0, A4, c4, b8, (by (simp only [fr, List.foldl_cons, List.foldl_nil, Act.put, List.setIfInBounds_toArray, List.set_cons_zero, List.set_cons_succ]); try rfl), b_call hB hb5, ⟨fun _ => rfl, hY.2⟩, Lib.hid (fun l => (h8.out l).call hb5), Lib.hid (fun _ => rfl), Lib.hid (no_yet e2), hF.2.2.1, hF.2.2.2.1, hF.2.2.2.2.1, hF.2.2.2.2.2.1, hF.2.2.2.2.2.2.1, hF.2.2.2.2.2.2.2.1, hF.2.2.2.2.2.2.2.2.1, hF.2.2.2.2.2.2.2.2.2.1, hF.2.2.2.2.2.2.2.2.2.2.1, hF.2.2.2.2.2.2.2.2.2.2.2.1, hF.2.2.2.2.2.2.2.2.2.2.2.2.1, hF.2.2.2.2.2.2.2.2.2.2.2.2.2.1, hF.2.2.2.2.2.2.2.2.2.2.2.2.2.2.1, hF.2.2.2.2.2.2.2.2.2.2.2.2.2.2.2.1, hF.2.2.2.2.2.2.2.2.2.2.2.2.2.2.2.2.1, hF.2.2.2.2.2.2.2.2.2.2.2.2.2.2.2.2.2.1, hF.2.2.2.2.2.2.2.2.2.2.2.2.2.2.2.2.2.2.1, hF.2.2.2.2.2.2.2.2.2.2.2.2.2.2.2.2.2.2.2.1, hF.2.2.2.2.2.2.2.2.2.2.2.2.2.2.2.2.2.2.2.2.1, hF.2.2.2.2.2.2.2.2.2.2.2.2.2.2.2.2.2.2.2.2.2.1, hF.2.2.2.2.2.2.2.2.2.2.2.2.2.2.2.2.2.2.2.2.2.2.1, hF.2.2.2.2.2.2.2.2.2.2.2.2.2.2.2.2.2.2.2.2.2.2.2⟩
    refine Steps.plain (i := 2) (o := ?a54o2) [1] ?a54h2 ?a54g2 ?a54d2 ?a54s2 ?a54r2
    case a54h2 => (simp only [List.getElem?_toArray, List.getElem?_cons_succ, List.getElem?_cons_zero]; rfl)
    case a54g2 => rfl
    case a54d2 => kernel_rfl
    case a54s2 =>
      rintro L aa w h0 ⟨e1, _⟩ ⟨v17, v18, v19, v20, v21, v22, v23, v24, v25, v26, v27, v28, v29, v30, v31, v32, v33, v34, v35, v36, v37, v38, v39, v0, Ax, cx, b8, rfl, hB, hY, h8, hF⟩ K hK
      obtain rfl := (hF.1).out e1
      simp only [fr, List.foldl_cons, List.foldl_nil, Act.put, List.setIfInBounds_toArray, List.set_cons_zero, List.set_cons_succ]
      go_simp
      exact hK _ _ ⟨(Value.agg #[.int .i64 0, .int .i64 7, .slice Ax 0 cx]), (Value.slice Ax 0 cx), v19, v20, v21, v22, v23, v24, v25, v26, v27, v28, v29, v30, v31, v32, v33, v34, v35, v36, v37, v38, v39, v0, Ax, cx, b8, (by (simp only [fr, List.foldl_cons, List.foldl_nil, Act.put, List.setIfInBounds_toArray, List.set_cons_zero, List.set_cons_succ]); try rfl), hB, ⟨fun _ => e1, hY.2⟩, h8, hF.1, Lib.hid (fun _ => rfl), hF.2.2.1, hF.2.2.2.1, hF.2.2.2.2.1, hF.2.2.2.2.2.1, hF.2.2.2.2.2.2.1, hF.2.2.2.2.2.2.2.1, hF.2.2.2.2.2.2.2.2.1, hF.2.2.2.2.2.2.2.2.2.1, hF.2.2.2.2.2.2.2.2.2.2.1, hF.2.2.2.2.2.2.2.2.2.2.2.1, hF.2.2.2.2.2.2.2.2.2.2.2.2.1, hF.2.2.2.2.2.2.2.2.2.2.2.2.2.1, hF.2.2.2.2.2.2.2.2.2.2.2.2.2.2.1, hF.2.2.2.2.2.2.2.2.2.2.2.2.2.2.2.1, hF.2.2.2.2.2.2.2.2.2.2.2.2.2.2.2.2.1, hF.2.2.2.2.2.2.2.2.2.2.2.2.2.2.2.2.2.1, hF.2.2.2.2.2.2.2.2.2.2.2.2.2.2.2.2.2.2.1, hF.2.2.2.2.2.2.2.2.2.2.2.2.2.2.2.2.2.2.2.1, hF.2.2.2.2.2.2.2.2.2.2.2.2.2.2.2.2.2.2.2.2.1, hF.2.2.2.2.2.2.2.2.2.2.2.2.2.2.2.2.2.2.2.2.2.1, hF.2.2.2.2.2.2.2.2.2.2.2.2.2.2.2.2.2.2.2.2.2.2.1, hF.2.2.2.2.2.2.2.2.2.2.2.2.2.2.2.2.2.2.2.2.2.2.2⟩
    refine Steps.plain (i := 3) (o := ?a54o3) [2] ?a54h3 ?a54g3 ?a54d3 ?a54s3 ?a54r3
    case a54h3 => (simp only [List.getElem?_toArray, List.getElem?_cons_succ, List.getElem?_cons_zero]; rfl)
    case a54g3 => rfl
    case a54d3 => kernel_rfl
    case a54s3 =>
      rintro L aa w h0 ⟨e2, _⟩ ⟨v17, v18, v19, v20, v21, v22, v23, v24, v25, v26, v27, v28, v29, v30, v31, v32, v33, v34, v35, v36, v37, v38, v39, v0, Ax, cx, b8, rfl, hB, hY, h8, hF⟩ K hK
      obtain rfl := (hF.2.1).out e2
      simp only [fr, List.foldl_cons, List.foldl_nil, Act.put, List.setIfInBounds_toArray, List.set_cons_zero, List.set_cons_succ]
      go_simp
      exact hK _ _ ⟨v17, (Value.slice Ax 0 cx), (Value.int .i64 0), v20, v21, v22, v23, v24, v25, v26, v27, v28, v29, v30, v31, v32, v33, v34, v35, v36, v37, v38, v39, v0, Ax, cx, b8, (by (simp only [fr, List.foldl_cons, List.foldl_nil, Act.put, List.setIfInBounds_toArray, List.set_cons_zero, List.set_cons_succ]); try rfl), hB, hY, h8, hF.1, hF.2.1, Lib.hid (fun _ => rfl), hF.2.2.2.1, hF.2.2.2.2.1, hF.2.2.2.2.2.1, hF.2.2.2.2.2.2.1, hF.2.2.2.2.2.2.2.1, hF.2.2.2.2.2.2.2.2.1, hF.2.2.2.2.2.2.2.2.2.1, hF.2.2.2.2.2.2.2.2.2.2.1, hF.2.2.2.2.2.2.2.2.2.2.2.1, hF.2.2.2.2.2.2.2.2.2.2.2.2.1, hF.2.2.2.2.2.2.2.2.2.2.2.2.2.1, hF.2.2.2.2.2.2.2.2.2.2.2.2.2.2.1, hF.2.2.2.2.2.2.2.2.2.2.2.2.2.2.2.1, hF.2.2.2.2.2.2.2.2.2.2.2.2.2.2.2.2.1, hF.2.2.2.2.2.2.2.2.2.2.2.2.2.2.2.2.2.1, hF.2.2.2.2.2.2.2.2.2.2.2.2.2.2.2.2.2.2.1, hF.2.2.2.2.2.2.2.2.2.2.2.2.2.2.2.2.2.2.2.1, hF.2.2.2.2.2.2.2.2.2.2.2.2.2.2.2.2.2.2.2.2.1, hF.2.2.2.2.2.2.2.2.2.2.2.2.2.2.2.2.2.2.2.2.2.1, hF.2.2.2.2.2.2.2.2.2.2.2.2.2.2.2.2.2.2.2.2.2.2.1, hF.2.2.2.2.2.2.2.2.2.2.2.2.2.2.2.2.2.2.2.2.2.2.2⟩
    refine Steps.plain (i := 4) (o := ?a54o4) [3] ?a54h4 ?a54g4 ?a54d4 ?a54s4 ?a54r4
    case a54h4 => (simp only [List.getElem?_toArray, List.getElem?_cons_succ, List.getElem?_cons_zero]; rfl)
    case a54g4 => rfl
    case a54d4 => kernel_rfl
    case a54s4 =>
      rintro L aa w h0 ⟨e3, _⟩ ⟨v17, v18, v19, v20, v21, v22, v23, v24, v25, v26, v27, v28, v29, v30, v31, v32, v33, v34, v35, v36, v37, v38, v39, v0, Ax, cx, b8, rfl, hB, hY, h8, hF⟩ K hK
      obtain rfl := (hF.2.2.1).out e3
      simp only [fr, List.foldl_cons, List.foldl_nil, Act.put, List.setIfInBounds_toArray, List.set_cons_zero, List.set_cons_succ]
      go_simp
      exact hK _ _ ⟨v17, v18, (Value.int .i64 0), (Value.bool true), v21, v22, v23, v24, v25, v26, v27, v28, v29, v30, v31, v32, v33, v34, v35, v36, v37, v38, v39, v0, Ax, cx, b8, (by (simp only [fr, List.foldl_cons, List.foldl_nil, Act.put, List.setIfInBounds_toArray, List.set_cons_zero, List.set_cons_succ]); try rfl), hB, hY, h8, hF.1, hF.2.1, hF.2.2.1, Lib.hid (fun _ => rfl), hF.2.2.2.2.1, hF.2.2.2.2.2.1, hF.2.2.2.2.2.2.1, hF.2.2.2.2.2.2.2.1, hF.2.2.2.2.2.2.2.2.1, hF.2.2.2.2.2.2.2.2.2.1, hF.2.2.2.2.2.2.2.2.2.2.1, hF.2.2.2.2.2.2.2.2.2.2.2.1, hF.2.2.2.2.2.2.2.2.2.2.2.2.1, hF.2.2.2.2.2.2.2.2.2.2.2.2.2.1, hF.2.2.2.2.2.2.2.2.2.2.2.2.2.2.1, hF.2.2.2.2.2.2.2.2.2.2.2.2.2.2.2.1, hF.2.2.2.2.2.2.2.2.2.2.2.2.2.2.2.2.1, hF.2.2.2.2.2.2.2.2.2.2.2.2.2.2.2.2.2.1, hF.2.2.2.2.2.2.2.2.2.2.2.2.2.2.2.2.2.2.1, hF.2.2.2.2.2.2.2.2.2.2.2.2.2.2.2.2.2.2.2.1, hF.2.2.2.2.2.2.2.2.2.2.2.2.2.2.2.2.2.2.2.2.1, hF.2.2.2.2.2.2.2.2.2.2.2.2.2.2.2.2.2.2.2.2.2.1, hF.2.2.2.2.2.2.2.2.2.2.2.2.2.2.2.2.2.2.2.2.2.2.1, hF.2.2.2.2.2.2.2.2.2.2.2.2.2.2.2.2.2.2.2.2.2.2.2⟩
    refine Steps.plain (i := 5) (o := ?a54o5) [4] ?a54h5 ?a54g5 ?a54d5 ?a54s5 ?a54r5
    case a54h5 => (simp only [List.getElem?_toArray, List.getElem?_cons_succ, List.getElem?_cons_zero]; rfl)
    case a54g5 => rfl
    case a54d5 => kernel_rfl
    case a54s5 =>
      rintro L aa w h0 ⟨e4, _⟩ ⟨v17, v18, v19, v20, v21, v22, v23, v24, v25, v26, v27, v28, v29, v30, v31, v32, v33, v34, v35, v36, v37, v38, v39, v0, Ax, cx, b8, rfl, hB, hY, h8, hF⟩ K hK
      obtain rfl := (hF.2.2.2.1).out e4
      simp only [fr, List.foldl_cons, List.foldl_nil, Act.put, List.setIfInBounds_toArray, List.set_cons_zero, List.set_cons_succ]
      go_simp
      exact hK _ _ ⟨v17, v18, v19, (Value.bool true), (Value.bool true), v22, v23, v24, v25, v26, v27, v28, v29, v30, v31, v32, v33, v34, v35, v36, v37, v38, v39, v0, Ax, cx, b8, (by (simp only [fr, List.foldl_cons, List.foldl_nil, Act.put, List.setIfInBounds_toArray, List.set_cons_zero, List.set_cons_succ]); try rfl), hB, hY, h8, hF.1, hF.2.1, hF.2.2.1, hF.2.2.2.1, Lib.hid (fun _ => rfl), hF.2.2.2.2.2.1, hF.2.2.2.2.2.2.1, hF.2.2.2.2.2.2.2.1, hF.2.2.2.2.2.2.2.2.1, hF.2.2.2.2.2.2.2.2.2.1, hF.2.2.2.2.2.2.2.2.2.2.1, hF.2.2.2.2.2.2.2.2.2.2.2.1, hF.2.2.2.2.2.2.2.2.2.2.2.2.1, hF.2.2.2.2.2.2.2.2.2.2.2.2.2.1, hF.2.2.2.2.2.2.2.2.2.2.2.2.2.2.1, hF.2.2.2.2.2.2.2.2.2.2.2.2.2.2.2.1, hF.2.2.2.2.2.2.2.2.2.2.2.2.2.2.2.2.1, hF.2.2.2.2.2.2.2.2.2.2.2.2.2.2.2.2.2.1, hF.2.2.2.2.2.2.2.2.2.2.2.2.2.2.2.2.2.2.1, hF.2.2.2.2.2.2.2.2.2.2.2.2.2.2.2.2.2.2.2.1, hF.2.2.2.2.2.2.2.2.2.2.2.2.2.2.2.2.2.2.2.2.1, hF.2.2.2.2.2.2.2.2.2.2.2.2.2.2.2.2.2.2.2.2.2.1, hF.2.2.2.2.2.2.2.2.2.2.2.2.2.2.2.2.2.2.2.2.2.2.1, hF.2.2.2.2.2.2.2.2.2.2.2.2.2.2.2.2.2.2.2.2.2.2.2⟩
    refine Steps.on (i := 6) (o := ?a54o6) [5] ?a54h6 5 true 21 ?a54g6 ?a54t6 ?a54d6 ?a54s6 ?a54r6
    case a54h6 => (simp only [List.getElem?_toArray, List.getElem?_cons_succ, List.getElem?_cons_zero]; rfl)
    case a54g6 => rfl
    case a54d6 => kernel_rfl
    case a54t6 => kernel_rfl
    case a54s6 =>
      rintro L aa w h0 ⟨e5, _⟩ ⟨v17, v18, v19, v20, v21, v22, v23, v24, v25, v26, v27, v28, v29, v30, v31, v32, v33, v34, v35, v36, v37, v38, v39, v0, Ax, cx, b8, rfl, hB, hY, h8, hF⟩ K hK
      obtain rfl := (hF.2.2.2.2.1).out e5
      simp only [fr, List.foldl_cons, List.foldl_nil, Act.put, List.setIfInBounds_toArray, List.set_cons_zero, List.set_cons_succ]
      refine ⟨by rfl, ?_⟩
      go_simp
      exact hK _ _ ⟨v17, v18, v19, v20, (Value.bool true), (Value.pointer (some ⟨g1, 0, none⟩)), v23, v24, v25, v26, v27, v28, v29, v30, v31, v32, v33, v34, v35, v36, v37, v38, v39, v0, Ax, cx, b8, (by (simp only [fr, List.foldl_cons, List.foldl_nil, Act.put, List.setIfInBounds_toArray, List.set_cons_zero, List.set_cons_succ]); try rfl), hB, hY, h8, hF.1, hF.2.1, hF.2.2.1, hF.2.2.2.1, hF.2.2.2.2.1, Lib.hid (fun _ => rfl), hF.2.2.2.2.2.2.1, hF.2.2.2.2.2.2.2.1, hF.2.2.2.2.2.2.2.2.1, hF.2.2.2.2.2.2.2.2.2.1, hF.2.2.2.2.2.2.2.2.2.2.1, hF.2.2.2.2.2.2.2.2.2.2.2.1, hF.2.2.2.2.2.2.2.2.2.2.2.2.1, hF.2.2.2.2.2.2.2.2.2.2.2.2.2.1, hF.2.2.2.2.2.2.2.2.2.2.2.2.2.2.1, hF.2.2.2.2.2.2.2.2.2.2.2.2.2.2.2.1, hF.2.2.2.2.2.2.2.2.2.2.2.2.2.2.2.2.1, hF.2.2.2.2.2.2.2.2.2.2.2.2.2.2.2.2.2.1, hF.2.2.2.2.2.2.2.2.2.2.2.2.2.2.2.2.2.2.1, hF.2.2.2.2.2.2.2.2.2.2.2.2.2.2.2.2.2.2.2.1, hF.2.2.2.2.2.2.2.2.2.2.2.2.2.2.2.2.2.2.2.2.1, hF.2.2.2.2.2.2.2.2.2.2.2.2.2.2.2.2.2.2.2.2.2.1, hF.2.2.2.2.2.2.2.2.2.2.2.2.2.2.2.2.2.2.2.2.2.2.1, hF.2.2.2.2.2.2.2.2.2.2.2.2.2.2.2.2.2.2.2.2.2.2.2⟩
    refine Steps.on (i := 7) (o := ?a54o7) [5, 6] ?a54h7 5 true 21 ?a54g7 ?a54t7 ?a54d7 ?a54s7 ?a54r7
    case a54h7 => (simp only [List.getElem?_toArray, List.getElem?_cons_succ, List.getElem?_cons_zero]; rfl)
    case a54g7 => rfl
    case a54d7 => kernel_rfl
    case a54t7 => kernel_rfl
    case a54s7 =>
      rintro L aa w h0 ⟨e5, e6, _⟩ ⟨v17, v18, v19, v20, v21, v22, v23, v24, v25, v26, v27, v28, v29, v30, v31, v32, v33, v34, v35, v36, v37, v38, v39, v0, Ax, cx, b8, rfl, hB, hY, h8, hF⟩ K hK
      obtain rfl := (hF.2.2.2.2.1).out e5
      obtain rfl := (hF.2.2.2.2.2.1).out e6
      simp only [fr, List.foldl_cons, List.foldl_nil, Act.put, List.setIfInBounds_toArray, List.set_cons_zero, List.set_cons_succ]
      refine ⟨by rfl, ?_⟩
      go_simp
      refine (HR1.out _ (HT1.out.call hB)).mono ?_
      rintro e w5 ⟨rfl, rfl⟩
      exact hK _ _ ⟨v17, v18, v19, v20, (Value.bool true), (Value.pointer (some ⟨g1, 0, none⟩)), (Value.int .u64 r1), v24, v25, v26, v27, v28, v29, v30, v31, v32, v33, v34, v35, v36, v37, v38, v39, v0, Ax, cx, b8, (by (simp only [fr, List.foldl_cons, List.foldl_nil, Act.put, List.setIfInBounds_toArray, List.set_cons_zero, List.set_cons_succ]); try rfl), hB, hY, h8, hF.1, hF.2.1, hF.2.2.1, hF.2.2.2.1, hF.2.2.2.2.1, hF.2.2.2.2.2.1, Lib.hid (fun _ => rfl), hF.2.2.2.2.2.2.2.1, hF.2.2.2.2.2.2.2.2.1, hF.2.2.2.2.2.2.2.2.2.1, hF.2.2.2.2.2.2.2.2.2.2.1, hF.2.2.2.2.2.2.2.2.2.2.2.1, hF.2.2.2.2.2.2.2.2.2.2.2.2.1, hF.2.2.2.2.2.2.2.2.2.2.2.2.2.1, hF.2.2.2.2.2.2.2.2.2.2.2.2.2.2.1, hF.2.2.2.2.2.2.2.2.2.2.2.2.2.2.2.1, hF.2.2.2.2.2.2.2.2.2.2.2.2.2.2.2.2.1, hF.2.2.2.2.2.2.2.2.2.2.2.2.2.2.2.2.2.1, hF.2.2.2.2.2.2.2.2.2.2.2.2.2.2.2.2.2.2.1, hF.2.2.2.2.2.2.2.2.2.2.2.2.2.2.2.2.2.2.2.1, hF.2.2.2.2.2.2.2.2.2.2.2.2.2.2.2.2.2.2.2.2.1, hF.2.2.2.2.2.2.2.2.2.2.2.2.2.2.2.2.2.2.2.2.2.1, hF.2.2.2.2.2.2.2.2.2.2.2.2.2.2.2.2.2.2.2.2.2.2.1, hF.2.2.2.2.2.2.2.2.2.2.2.2.2.2.2.2.2.2.2.2.2.2.2⟩
    refine Steps.on (i := 8) (o := ?a54o8) [5] ?a54h8 5 true 21 ?a54g8 ?a54t8 ?a54d8 ?a54s8 ?a54r8
    case a54h8 => (simp only [List.getElem?_toArray, List.getElem?_cons_succ, List.getElem?_cons_zero]; rfl)
    case a54g8 => rfl
    case a54d8 => kernel_rfl
    case a54t8 => kernel_rfl
    case a54s8 =>
      rintro L aa w h0 ⟨e5, _⟩ ⟨v17, v18, v19, v20, v21, v22, v23, v24, v25, v26, v27, v28, v29, v30, v31, v32, v33, v34, v35, v36, v37, v38, v39, v0, Ax, cx, b8, rfl, hB, hY, h8, hF⟩ K hK
      obtain rfl := (hF.2.2.2.2.1).out e5
      simp only [fr, List.foldl_cons, List.foldl_nil, Act.put, List.setIfInBounds_toArray, List.set_cons_zero, List.set_cons_succ]
      refine ⟨by rfl, ?_⟩
      have e9 : L 9 = false := by rcases h : L 9 with _ | _ <;> first | rfl | exact absurd (hY.2 h) (by simp [h0])
      go_simp
      exact hK _ _ ⟨v17, v18, v19, v20, (Value.bool true), v22, v23, (Value.slice (some ⟨(w.heap.size), 0, none⟩) 2 2), v25, v26, v27, v28, v29, v30, v31, v32, v33, v34, v35, v36, v37, v38, v39, v0, Ax, cx, w.heap.size, (by (simp only [fr, List.foldl_cons, List.foldl_nil, Act.put, List.setIfInBounds_toArray, List.set_cons_zero, List.set_cons_succ]); try rfl), b_alloc hB _, ⟨hY.1, fun _ => rfl⟩, Lib.hid (fun _ => Vr.new w _ _), hF.1, hF.2.1, hF.2.2.1, hF.2.2.2.1, hF.2.2.2.2.1, hF.2.2.2.2.2.1, hF.2.2.2.2.2.2.1, Lib.hid (fun _ => rfl), hF.2.2.2.2.2.2.2.2.1, hF.2.2.2.2.2.2.2.2.2.1, hF.2.2.2.2.2.2.2.2.2.2.1, hF.2.2.2.2.2.2.2.2.2.2.2.1, hF.2.2.2.2.2.2.2.2.2.2.2.2.1, hF.2.2.2.2.2.2.2.2.2.2.2.2.2.1, hF.2.2.2.2.2.2.2.2.2.2.2.2.2.2.1, hF.2.2.2.2.2.2.2.2.2.2.2.2.2.2.2.1, hF.2.2.2.2.2.2.2.2.2.2.2.2.2.2.2.2.1, hF.2.2.2.2.2.2.2.2.2.2.2.2.2.2.2.2.2.1, hF.2.2.2.2.2.2.2.2.2.2.2.2.2.2.2.2.2.2.1, hF.2.2.2.2.2.2.2.2.2.2.2.2.2.2.2.2.2.2.2.1, hF.2.2.2.2.2.2.2.2.2.2.2.2.2.2.2.2.2.2.2.2.1, hF.2.2.2.2.2.2.2.2.2.2.2.2.2.2.2.2.2.2.2.2.2.1, hF.2.2.2.2.2.2.2.2.2.2.2.2.2.2.2.2.2.2.2.2.2.2.1, hF.2.2.2.2.2.2.2.2.2.2.2.2.2.2.2.2.2.2.2.2.2.2.2⟩
    refine Steps.on (i := 9) (o := ?a54o9) [5, 8] ?a54h9 5 true 21 ?a54g9 ?a54t9 ?a54d9 ?a54s9 ?a54r9
    case a54h9 => (simp only [List.getElem?_toArray, List.getElem?_cons_succ, List.getElem?_cons_zero]; rfl)
    case a54g9 => rfl
    case a54d9 => kernel_rfl
    case a54t9 => kernel_rfl
    case a54s9 =>
      rintro L aa w h0 ⟨e5, e8, _⟩ ⟨v17, v18, v19, v20, v21, v22, v23, v24, v25, v26, v27, v28, v29, v30, v31, v32, v33, v34, v35, v36, v37, v38, v39, v0, Ax, cx, b8, rfl, hB, hY, h8, hF⟩ K hK
      obtain rfl := (hF.2.2.2.2.1).out e5
      obtain rfl := (hF.2.2.2.2.2.2.2.1).out e8
      simp only [fr, List.foldl_cons, List.foldl_nil, Act.put, List.setIfInBounds_toArray, List.set_cons_zero, List.set_cons_succ]
      refine ⟨by rfl, ?_⟩
      go_simp
      refine (HQ.out w _ (rd_vr (h8.out e8) (m := 2) (sz := 1) rfl)).mono ?_
      rintro e w5 ⟨rfl, hb5⟩
      exact hK _ _ ⟨v17, v18, v19, v20, (Value.bool true), v22, v23, (Value.slice (some ⟨b8, 0, none⟩) 2 2), (Value.int .u64 r1), v26, v27, v28, v29, v30, v31, v32, v33, v34, v35, v36, v37, v38, v39, v0, Ax, cx, b8, (by (simp only [fr, List.foldl_cons, List.foldl_nil, Act.put, List.setIfInBounds_toArray, List.set_cons_zero, List.set_cons_succ]); try rfl), b_call hB hb5, ⟨hY.1, fun _ => e8⟩, Lib.hid (fun l => (h8.out l).call hb5), hF.1, hF.2.1, hF.2.2.1, hF.2.2.2.1, hF.2.2.2.2.1, hF.2.2.2.2.2.1, hF.2.2.2.2.2.2.1, hF.2.2.2.2.2.2.2.1, Lib.hid (fun _ => rfl), hF.2.2.2.2.2.2.2.2.2.1, hF.2.2.2.2.2.2.2.2.2.2.1, hF.2.2.2.2.2.2.2.2.2.2.2.1, hF.2.2.2.2.2.2.2.2.2.2.2.2.1, hF.2.2.2.2.2.2.2.2.2.2.2.2.2.1, hF.2.2.2.2.2.2.2.2.2.2.2.2.2.2.1, hF.2.2.2.2.2.2.2.2.2.2.2.2.2.2.2.1, hF.2.2.2.2.2.2.2.2.2.2.2.2.2.2.2.2.1, hF.2.2.2.2.2.2.2.2.2.2.2.2.2.2.2.2.2.1, hF.2.2.2.2.2.2.2.2.2.2.2.2.2.2.2.2.2.2.1, hF.2.2.2.2.2.2.2.2.2.2.2.2.2.2.2.2.2.2.2.1, hF.2.2.2.2.2.2.2.2.2.2.2.2.2.2.2.2.2.2.2.2.1, hF.2.2.2.2.2.2.2.2.2.2.2.2.2.2.2.2.2.2.2.2.2.1, hF.2.2.2.2.2.2.2.2.2.2.2.2.2.2.2.2.2.2.2.2.2.2.1, hF.2.2.2.2.2.2.2.2.2.2.2.2.2.2.2.2.2.2.2.2.2.2.2⟩
    refine Steps.on (i := 10) (o := ?a54o10) [5, 7, 9] ?a54h10 5 true 21 ?a54g10 ?a54t10 ?a54d10 ?a54s10 ?a54r10
    case a54h10 => (simp only [List.getElem?_toArray, List.getElem?_cons_succ, List.getElem?_cons_zero]; rfl)
    case a54g10 => rfl
    case a54d10 => kernel_rfl
    case a54t10 => kernel_rfl
    case a54s10 =>
      rintro L aa w h0 ⟨e5, e7, e9, _⟩ ⟨v17, v18, v19, v20, v21, v22, v23, v24, v25, v26, v27, v28, v29, v30, v31, v32, v33, v34, v35, v36, v37, v38, v39, v0, Ax, cx, b8, rfl, hB, hY, h8, hF⟩ K hK
      obtain rfl := (hF.2.2.2.2.1).out e5
      obtain rfl := (hF.2.2.2.2.2.2.1).out e7
      obtain rfl := (hF.2.2.2.2.2.2.2.2.1).out e9
      simp only [fr, List.foldl_cons, List.foldl_nil, Act.put, List.setIfInBounds_toArray, List.set_cons_zero, List.set_cons_succ]
      refine ⟨by rfl, ?_⟩
      go_simp
      exact hK _ _ ⟨v17, v18, v19, v20, (Value.bool true), v22, (Value.int .u64 r1), v24, (Value.int .u64 r1), (Value.bool true), v27, v28, v29, v30, v31, v32, v33, v34, v35, v36, v37, v38, v39, v0, Ax, cx, b8, (by (simp only [fr, List.foldl_cons, List.foldl_nil, Act.put, List.setIfInBounds_toArray, List.set_cons_zero, List.set_cons_succ]); try rfl), hB, hY, h8, hF.1, hF.2.1, hF.2.2.1, hF.2.2.2.1, hF.2.2.2.2.1, hF.2.2.2.2.2.1, hF.2.2.2.2.2.2.1, hF.2.2.2.2.2.2.2.1, hF.2.2.2.2.2.2.2.2.1, Lib.hid (fun _ => rfl), hF.2.2.2.2.2.2.2.2.2.2.1, hF.2.2.2.2.2.2.2.2.2.2.2.1, hF.2.2.2.2.2.2.2.2.2.2.2.2.1, hF.2.2.2.2.2.2.2.2.2.2.2.2.2.1, hF.2.2.2.2.2.2.2.2.2.2.2.2.2.2.1, hF.2.2.2.2.2.2.2.2.2.2.2.2.2.2.2.1, hF.2.2.2.2.2.2.2.2.2.2.2.2.2.2.2.2.1, hF.2.2.2.2.2.2.2.2.2.2.2.2.2.2.2.2.2.1, hF.2.2.2.2.2.2.2.2.2.2.2.2.2.2.2.2.2.2.1, hF.2.2.2.2.2.2.2.2.2.2.2.2.2.2.2.2.2.2.2.1, hF.2.2.2.2.2.2.2.2.2.2.2.2.2.2.2.2.2.2.2.2.1, hF.2.2.2.2.2.2.2.2.2.2.2.2.2.2.2.2.2.2.2.2.2.1, hF.2.2.2.2.2.2.2.2.2.2.2.2.2.2.2.2.2.2.2.2.2.2.1, hF.2.2.2.2.2.2.2.2.2.2.2.2.2.2.2.2.2.2.2.2.2.2.2⟩
    refine Steps.plain (i := 11) (o := ?a54o11) [5, 10] ?a54h11 ?a54g11 ?a54d11 ?a54s11 ?a54r11
    case a54h11 => (simp only [List.getElem?_toArray, List.getElem?_cons_succ, List.getElem?_cons_zero]; rfl)
    case a54g11 => rfl
    case a54d11 => kernel_rfl
    case a54s11 =>
      rintro L aa w h0 ⟨e5, e10, _⟩ ⟨v17, v18, v19, v20, v21, v22, v23, v24, v25, v26, v27, v28, v29, v30, v31, v32, v33, v34, v35, v36, v37, v38, v39, v0, Ax, cx, b8, rfl, hB, hY, h8, hF⟩ K hK
      obtain rfl := (hF.2.2.2.2.1).out e5
      obtain rfl := (hF.2.2.2.2.2.2.2.2.2.1).out e10
      simp only [fr, List.foldl_cons, List.foldl_nil, Act.put, List.setIfInBounds_toArray, List.set_cons_zero, List.set_cons_succ]
      go_simp
      exact hK _ _ ⟨v17, v18, v19, v20, (Value.bool true), v22, v23, v24, v25, (Value.bool true), (Value.bool true), v28, v29, v30, v31, v32, v33, v34, v35, v36, v37, v38, v39, v0, Ax, cx, b8, (by (simp only [fr, List.foldl_cons, List.foldl_nil, Act.put, List.setIfInBounds_toArray, List.set_cons_zero, List.set_cons_succ]); try rfl), hB, hY, h8, hF.1, hF.2.1, hF.2.2.1, hF.2.2.2.1, hF.2.2.2.2.1, hF.2.2.2.2.2.1, hF.2.2.2.2.2.2.1, hF.2.2.2.2.2.2.2.1, hF.2.2.2.2.2.2.2.2.1, hF.2.2.2.2.2.2.2.2.2.1, Lib.hid (fun _ => rfl), hF.2.2.2.2.2.2.2.2.2.2.2.1, hF.2.2.2.2.2.2.2.2.2.2.2.2.1, hF.2.2.2.2.2.2.2.2.2.2.2.2.2.1, hF.2.2.2.2.2.2.2.2.2.2.2.2.2.2.1, hF.2.2.2.2.2.2.2.2.2.2.2.2.2.2.2.1, hF.2.2.2.2.2.2.2.2.2.2.2.2.2.2.2.2.1, hF.2.2.2.2.2.2.2.2.2.2.2.2.2.2.2.2.2.1, hF.2.2.2.2.2.2.2.2.2.2.2.2.2.2.2.2.2.2.1, hF.2.2.2.2.2.2.2.2.2.2.2.2.2.2.2.2.2.2.2.1, hF.2.2.2.2.2.2.2.2.2.2.2.2.2.2.2.2.2.2.2.2.1, hF.2.2.2.2.2.2.2.2.2.2.2.2.2.2.2.2.2.2.2.2.2.1, hF.2.2.2.2.2.2.2.2.2.2.2.2.2.2.2.2.2.2.2.2.2.2.1, hF.2.2.2.2.2.2.2.2.2.2.2.2.2.2.2.2.2.2.2.2.2.2.2⟩
    refine Steps.plain (i := 12) (o := ?a54o12) [11] ?a54h12 ?a54g12 ?a54d12 ?a54s12 ?a54r12
    case a54h12 => (simp only [List.getElem?_toArray, List.getElem?_cons_succ, List.getElem?_cons_zero]; rfl)
    case a54g12 => rfl
    case a54d12 => kernel_rfl
    case a54s12 =>
      rintro L aa w h0 ⟨e11, _⟩ ⟨v17, v18, v19, v20, v21, v22, v23, v24, v25, v26, v27, v28, v29, v30, v31, v32, v33, v34, v35, v36, v37, v38, v39, v0, Ax, cx, b8, rfl, hB, hY, h8, hF⟩ K hK
      obtain rfl := (hF.2.2.2.2.2.2.2.2.2.2.1).out e11
      simp only [fr, List.foldl_cons, List.foldl_nil, Act.put, List.setIfInBounds_toArray, List.set_cons_zero, List.set_cons_succ]
      go_simp
      exact hK _ _ ⟨v17, v18, v19, v20, v21, v22, v23, v24, v25, v26, (Value.bool true), (Value.bool true), v29, v30, v31, v32, v33, v34, v35, v36, v37, v38, v39, v0, Ax, cx, b8, (by (simp only [fr, List.foldl_cons, List.foldl_nil, Act.put, List.setIfInBounds_toArray, List.set_cons_zero, List.set_cons_succ]); try rfl), hB, hY, h8, hF.1, hF.2.1, hF.2.2.1, hF.2.2.2.1, hF.2.2.2.2.1, hF.2.2.2.2.2.1, hF.2.2.2.2.2.2.1, hF.2.2.2.2.2.2.2.1, hF.2.2.2.2.2.2.2.2.1, hF.2.2.2.2.2.2.2.2.2.1, hF.2.2.2.2.2.2.2.2.2.2.1, Lib.hid (fun _ => rfl), hF.2.2.2.2.2.2.2.2.2.2.2.2.1, hF.2.2.2.2.2.2.2.2.2.2.2.2.2.1, hF.2.2.2.2.2.2.2.2.2.2.2.2.2.2.1, hF.2.2.2.2.2.2.2.2.2.2.2.2.2.2.2.1, hF.2.2.2.2.2.2.2.2.2.2.2.2.2.2.2.2.1, hF.2.2.2.2.2.2.2.2.2.2.2.2.2.2.2.2.2.1, hF.2.2.2.2.2.2.2.2.2.2.2.2.2.2.2.2.2.2.1, hF.2.2.2.2.2.2.2.2.2.2.2.2.2.2.2.2.2.2.2.1, hF.2.2.2.2.2.2.2.2.2.2.2.2.2.2.2.2.2.2.2.2.1, hF.2.2.2.2.2.2.2.2.2.2.2.2.2.2.2.2.2.2.2.2.2.1, hF.2.2.2.2.2.2.2.2.2.2.2.2.2.2.2.2.2.2.2.2.2.2.1, hF.2.2.2.2.2.2.2.2.2.2.2.2.2.2.2.2.2.2.2.2.2.2.2⟩
    refine Steps.on (i := 13) (o := ?a54o13) [12] ?a54h13 12 true 28 ?a54g13 ?a54t13 ?a54d13 ?a54s13 ?a54r13
    case a54h13 => (simp only [List.getElem?_toArray, List.getElem?_cons_succ, List.getElem?_cons_zero]; rfl)
    case a54g13 => rfl
    case a54d13 => kernel_rfl
    case a54t13 => kernel_rfl
    case a54s13 =>
      rintro L aa w h0 ⟨e12, _⟩ ⟨v17, v18, v19, v20, v21, v22, v23, v24, v25, v26, v27, v28, v29, v30, v31, v32, v33, v34, v35, v36, v37, v38, v39, v0, Ax, cx, b8, rfl, hB, hY, h8, hF⟩ K hK
      obtain rfl := (hF.2.2.2.2.2.2.2.2.2.2.2.1).out e12
      simp only [fr, List.foldl_cons, List.foldl_nil, Act.put, List.setIfInBounds_toArray, List.set_cons_zero, List.set_cons_succ]
      refine ⟨by rfl, ?_⟩
      go_simp
      exact hK _ _ ⟨v17, v18, v19, v20, v21, v22, v23, v24, v25, v26, v27, (Value.bool true), (Value.pointer (some ⟨bx, 2, none⟩)), v30, v31, v32, v33, v34, v35, v36, v37, v38, v39, v0, Ax, cx, b8, (by (simp only [fr, List.foldl_cons, List.foldl_nil, Act.put, List.setIfInBounds_toArray, List.set_cons_zero, List.set_cons_succ]); try rfl), hB, hY, h8, hF.1, hF.2.1, hF.2.2.1, hF.2.2.2.1, hF.2.2.2.2.1, hF.2.2.2.2.2.1, hF.2.2.2.2.2.2.1, hF.2.2.2.2.2.2.2.1, hF.2.2.2.2.2.2.2.2.1, hF.2.2.2.2.2.2.2.2.2.1, hF.2.2.2.2.2.2.2.2.2.2.1, hF.2.2.2.2.2.2.2.2.2.2.2.1, Lib.hid (fun _ => rfl), hF.2.2.2.2.2.2.2.2.2.2.2.2.2.1, hF.2.2.2.2.2.2.2.2.2.2.2.2.2.2.1, hF.2.2.2.2.2.2.2.2.2.2.2.2.2.2.2.1, hF.2.2.2.2.2.2.2.2.2.2.2.2.2.2.2.2.1, hF.2.2.2.2.2.2.2.2.2.2.2.2.2.2.2.2.2.1, hF.2.2.2.2.2.2.2.2.2.2.2.2.2.2.2.2.2.2.1, hF.2.2.2.2.2.2.2.2.2.2.2.2.2.2.2.2.2.2.2.1, hF.2.2.2.2.2.2.2.2.2.2.2.2.2.2.2.2.2.2.2.2.1, hF.2.2.2.2.2.2.2.2.2.2.2.2.2.2.2.2.2.2.2.2.2.1, hF.2.2.2.2.2.2.2.2.2.2.2.2.2.2.2.2.2.2.2.2.2.2.1, hF.2.2.2.2.2.2.2.2.2.2.2.2.2.2.2.2.2.2.2.2.2.2.2⟩
    refine Steps.on (i := 14) (o := ?a54o14) [12, 13] ?a54h14 12 true 28 ?a54g14 ?a54t14 ?a54d14 ?a54s14 ?a54r14
    case a54h14 => (simp only [List.getElem?_toArray, List.getElem?_cons_succ, List.getElem?_cons_zero]; rfl)
    case a54g14 => rfl
    case a54d14 => kernel_rfl
    case a54t14 => kernel_rfl
    case a54s14 =>
      rintro L aa w h0 ⟨e12, e13, _⟩ ⟨v17, v18, v19, v20, v21, v22, v23, v24, v25, v26, v27, v28, v29, v30, v31, v32, v33, v34, v35, v36, v37, v38, v39, v0, Ax, cx, b8, rfl, hB, hY, h8, hF⟩ K hK
      obtain rfl := (hF.2.2.2.2.2.2.2.2.2.2.2.1).out e12
      obtain rfl := (hF.2.2.2.2.2.2.2.2.2.2.2.2.1).out e13
      simp only [fr, List.foldl_cons, List.foldl_nil, Act.put, List.setIfInBounds_toArray, List.set_cons_zero, List.set_cons_succ]
      refine ⟨by rfl, ?_⟩
      have y : w.cell? ⟨bx, 2, none⟩ = some (.slice A3 2 c3) := (VX.out.call hB).cell 2
      go_simp
      exact hK _ _ ⟨v17, v18, v19, v20, v21, v22, v23, v24, v25, v26, v27, (Value.bool true), (Value.pointer (some ⟨bx, 2, none⟩)), (Value.slice A3 2 c3), v31, v32, v33, v34, v35, v36, v37, v38, v39, v0, Ax, cx, b8, (by (simp only [fr, List.foldl_cons, List.foldl_nil, Act.put, List.setIfInBounds_toArray, List.set_cons_zero, List.set_cons_succ]); try rfl), hB, hY, h8, hF.1, hF.2.1, hF.2.2.1, hF.2.2.2.1, hF.2.2.2.2.1, hF.2.2.2.2.2.1, hF.2.2.2.2.2.2.1, hF.2.2.2.2.2.2.2.1, hF.2.2.2.2.2.2.2.2.1, hF.2.2.2.2.2.2.2.2.2.1, hF.2.2.2.2.2.2.2.2.2.2.1, hF.2.2.2.2.2.2.2.2.2.2.2.1, hF.2.2.2.2.2.2.2.2.2.2.2.2.1, Lib.hid (fun _ => rfl), hF.2.2.2.2.2.2.2.2.2.2.2.2.2.2.1, hF.2.2.2.2.2.2.2.2.2.2.2.2.2.2.2.1, hF.2.2.2.2.2.2.2.2.2.2.2.2.2.2.2.2.1, hF.2.2.2.2.2.2.2.2.2.2.2.2.2.2.2.2.2.1, hF.2.2.2.2.2.2.2.2.2.2.2.2.2.2.2.2.2.2.1, hF.2.2.2.2.2.2.2.2.2.2.2.2.2.2.2.2.2.2.2.1, hF.2.2.2.2.2.2.2.2.2.2.2.2.2.2.2.2.2.2.2.2.1, hF.2.2.2.2.2.2.2.2.2.2.2.2.2.2.2.2.2.2.2.2.2.1, hF.2.2.2.2.2.2.2.2.2.2.2.2.2.2.2.2.2.2.2.2.2.2.1, hF.2.2.2.2.2.2.2.2.2.2.2.2.2.2.2.2.2.2.2.2.2.2.2⟩
    refine Steps.on (i := 15) (o := ?a54o15) [12, 14] ?a54h15 12 true 28 ?a54g15 ?a54t15 ?a54d15 ?a54s15 ?a54r15
    case a54h15 => (simp only [List.getElem?_toArray, List.getElem?_cons_succ, List.getElem?_cons_zero]; rfl)
    case a54g15 => rfl
    case a54d15 => kernel_rfl
    case a54t15 => kernel_rfl
    case a54s15 =>
      rintro L aa w h0 ⟨e12, e14, _⟩ ⟨v17, v18, v19, v20, v21, v22, v23, v24, v25, v26, v27, v28, v29, v30, v31, v32, v33, v34, v35, v36, v37, v38, v39, v0, Ax, cx, b8, rfl, hB, hY, h8, hF⟩ K hK
      obtain rfl := (hF.2.2.2.2.2.2.2.2.2.2.2.1).out e12
      obtain rfl := (hF.2.2.2.2.2.2.2.2.2.2.2.2.2.1).out e14
      simp only [fr, List.foldl_cons, List.foldl_nil, Act.put, List.setIfInBounds_toArray, List.set_cons_zero, List.set_cons_succ]
      refine ⟨by rfl, ?_⟩
      go_simp
      exact hK _ _ ⟨v17, v18, v19, v20, v21, v22, v23, v24, v25, v26, v27, (Value.bool true), v29, (Value.slice A3 2 c3), (Value.int .i64 2), v32, v33, v34, v35, v36, v37, v38, v39, v0, Ax, cx, b8, (by (simp only [fr, List.foldl_cons, List.foldl_nil, Act.put, List.setIfInBounds_toArray, List.set_cons_zero, List.set_cons_succ]); try rfl), hB, hY, h8, hF.1, hF.2.1, hF.2.2.1, hF.2.2.2.1, hF.2.2.2.2.1, hF.2.2.2.2.2.1, hF.2.2.2.2.2.2.1, hF.2.2.2.2.2.2.2.1, hF.2.2.2.2.2.2.2.2.1, hF.2.2.2.2.2.2.2.2.2.1, hF.2.2.2.2.2.2.2.2.2.2.1, hF.2.2.2.2.2.2.2.2.2.2.2.1, hF.2.2.2.2.2.2.2.2.2.2.2.2.1, hF.2.2.2.2.2.2.2.2.2.2.2.2.2.1, Lib.hid (fun _ => rfl), hF.2.2.2.2.2.2.2.2.2.2.2.2.2.2.2.1, hF.2.2.2.2.2.2.2.2.2.2.2.2.2.2.2.2.1, hF.2.2.2.2.2.2.2.2.2.2.2.2.2.2.2.2.2.1, hF.2.2.2.2.2.2.2.2.2.2.2.2.2.2.2.2.2.2.1, hF.2.2.2.2.2.2.2.2.2.2.2.2.2.2.2.2.2.2.2.1, hF.2.2.2.2.2.2.2.2.2.2.2.2.2.2.2.2.2.2.2.2.1, hF.2.2.2.2.2.2.2.2.2.2.2.2.2.2.2.2.2.2.2.2.2.1, hF.2.2.2.2.2.2.2.2.2.2.2.2.2.2.2.2.2.2.2.2.2.2.1, hF.2.2.2.2.2.2.2.2.2.2.2.2.2.2.2.2.2.2.2.2.2.2.2⟩
    refine Steps.on (i := 16) (o := ?a54o16) [12, 15] ?a54h16 12 true 28 ?a54g16 ?a54t16 ?a54d16 ?a54s16 ?a54r16
    case a54h16 => (simp only [List.getElem?_toArray, List.getElem?_cons_succ, List.getElem?_cons_zero]; rfl)
    case a54g16 => rfl
    case a54d16 => kernel_rfl
    case a54t16 => kernel_rfl
    case a54s16 =>
      rintro L aa w h0 ⟨e12, e15, _⟩ ⟨v17, v18, v19, v20, v21, v22, v23, v24, v25, v26, v27, v28, v29, v30, v31, v32, v33, v34, v35, v36, v37, v38, v39, v0, Ax, cx, b8, rfl, hB, hY, h8, hF⟩ K hK
      obtain rfl := (hF.2.2.2.2.2.2.2.2.2.2.2.1).out e12
      obtain rfl := (hF.2.2.2.2.2.2.2.2.2.2.2.2.2.2.1).out e15
      simp only [fr, List.foldl_cons, List.foldl_nil, Act.put, List.setIfInBounds_toArray, List.set_cons_zero, List.set_cons_succ]
      refine ⟨by rfl, ?_⟩
      go_simp
      exact hK _ _ ⟨v17, v18, v19, v20, v21, v22, v23, v24, v25, v26, v27, (Value.bool true), v29, v30, (Value.int .i64 2), (Value.bool true), v33, v34, v35, v36, v37, v38, v39, v0, Ax, cx, b8, (by (simp only [fr, List.foldl_cons, List.foldl_nil, Act.put, List.setIfInBounds_toArray, List.set_cons_zero, List.set_cons_succ]); try rfl), hB, hY, h8, hF.1, hF.2.1, hF.2.2.1, hF.2.2.2.1, hF.2.2.2.2.1, hF.2.2.2.2.2.1, hF.2.2.2.2.2.2.1, hF.2.2.2.2.2.2.2.1, hF.2.2.2.2.2.2.2.2.1, hF.2.2.2.2.2.2.2.2.2.1, hF.2.2.2.2.2.2.2.2.2.2.1, hF.2.2.2.2.2.2.2.2.2.2.2.1, hF.2.2.2.2.2.2.2.2.2.2.2.2.1, hF.2.2.2.2.2.2.2.2.2.2.2.2.2.1, hF.2.2.2.2.2.2.2.2.2.2.2.2.2.2.1, Lib.hid (fun _ => rfl), hF.2.2.2.2.2.2.2.2.2.2.2.2.2.2.2.2.1, hF.2.2.2.2.2.2.2.2.2.2.2.2.2.2.2.2.2.1, hF.2.2.2.2.2.2.2.2.2.2.2.2.2.2.2.2.2.2.1, hF.2.2.2.2.2.2.2.2.2.2.2.2.2.2.2.2.2.2.2.1, hF.2.2.2.2.2.2.2.2.2.2.2.2.2.2.2.2.2.2.2.2.1, hF.2.2.2.2.2.2.2.2.2.2.2.2.2.2.2.2.2.2.2.2.2.1, hF.2.2.2.2.2.2.2.2.2.2.2.2.2.2.2.2.2.2.2.2.2.2.1, hF.2.2.2.2.2.2.2.2.2.2.2.2.2.2.2.2.2.2.2.2.2.2.2⟩
    refine Steps.plain (i := 17) (o := ?a54o17) [12, 16] ?a54h17 ?a54g17 ?a54d17 ?a54s17 ?a54r17
    case a54h17 => (simp only [List.getElem?_toArray, List.getElem?_cons_succ, List.getElem?_cons_zero]; rfl)
    case a54g17 => rfl
    case a54d17 => kernel_rfl
    case a54s17 =>
      rintro L aa w h0 ⟨e12, e16, _⟩ ⟨v17, v18, v19, v20, v21, v22, v23, v24, v25, v26, v27, v28, v29, v30, v31, v32, v33, v34, v35, v36, v37, v38, v39, v0, Ax, cx, b8, rfl, hB, hY, h8, hF⟩ K hK
      obtain rfl := (hF.2.2.2.2.2.2.2.2.2.2.2.1).out e12
      obtain rfl := (hF.2.2.2.2.2.2.2.2.2.2.2.2.2.2.2.1).out e16
      simp only [fr, List.foldl_cons, List.foldl_nil, Act.put, List.setIfInBounds_toArray, List.set_cons_zero, List.set_cons_succ]
      go_simp
      exact hK _ _ ⟨v17, v18, v19, v20, v21, v22, v23, v24, v25, v26, v27, (Value.bool true), v29, v30, v31, (Value.bool true), (Value.bool true), v34, v35, v36, v37, v38, v39, v0, Ax, cx, b8, (by (simp only [fr, List.foldl_cons, List.foldl_nil, Act.put, List.setIfInBounds_toArray, List.set_cons_zero, List.set_cons_succ]); try rfl), hB, hY, h8, hF.1, hF.2.1, hF.2.2.1, hF.2.2.2.1, hF.2.2.2.2.1, hF.2.2.2.2.2.1, hF.2.2.2.2.2.2.1, hF.2.2.2.2.2.2.2.1, hF.2.2.2.2.2.2.2.2.1, hF.2.2.2.2.2.2.2.2.2.1, hF.2.2.2.2.2.2.2.2.2.2.1, hF.2.2.2.2.2.2.2.2.2.2.2.1, hF.2.2.2.2.2.2.2.2.2.2.2.2.1, hF.2.2.2.2.2.2.2.2.2.2.2.2.2.1, hF.2.2.2.2.2.2.2.2.2.2.2.2.2.2.1, hF.2.2.2.2.2.2.2.2.2.2.2.2.2.2.2.1, Lib.hid (fun _ => rfl), hF.2.2.2.2.2.2.2.2.2.2.2.2.2.2.2.2.2.1, hF.2.2.2.2.2.2.2.2.2.2.2.2.2.2.2.2.2.2.1, hF.2.2.2.2.2.2.2.2.2.2.2.2.2.2.2.2.2.2.2.1, hF.2.2.2.2.2.2.2.2.2.2.2.2.2.2.2.2.2.2.2.2.1, hF.2.2.2.2.2.2.2.2.2.2.2.2.2.2.2.2.2.2.2.2.2.1, hF.2.2.2.2.2.2.2.2.2.2.2.2.2.2.2.2.2.2.2.2.2.2.1, hF.2.2.2.2.2.2.2.2.2.2.2.2.2.2.2.2.2.2.2.2.2.2.2⟩
    refine Steps.plain (i := 18) (o := ?a54o18) [17] ?a54h18 ?a54g18 ?a54d18 ?a54s18 ?a54r18
    case a54h18 => (simp only [List.getElem?_toArray, List.getElem?_cons_succ, List.getElem?_cons_zero]; rfl)
    case a54g18 => rfl
    case a54d18 => kernel_rfl
    case a54s18 =>
      rintro L aa w h0 ⟨e17, _⟩ ⟨v17, v18, v19, v20, v21, v22, v23, v24, v25, v26, v27, v28, v29, v30, v31, v32, v33, v34, v35, v36, v37, v38, v39, v0, Ax, cx, b8, rfl, hB, hY, h8, hF⟩ K hK
      obtain rfl := (hF.2.2.2.2.2.2.2.2.2.2.2.2.2.2.2.2.1).out e17
      simp only [fr, List.foldl_cons, List.foldl_nil, Act.put, List.setIfInBounds_toArray, List.set_cons_zero, List.set_cons_succ]
      go_simp
      exact hK _ _ ⟨v17, v18, v19, v20, v21, v22, v23, v24, v25, v26, v27, v28, v29, v30, v31, v32, (Value.bool true), (Value.bool true), v35, v36, v37, v38, v39, v0, Ax, cx, b8, (by (simp only [fr, List.foldl_cons, List.foldl_nil, Act.put, List.setIfInBounds_toArray, List.set_cons_zero, List.set_cons_succ]); try rfl), hB, hY, h8, hF.1, hF.2.1, hF.2.2.1, hF.2.2.2.1, hF.2.2.2.2.1, hF.2.2.2.2.2.1, hF.2.2.2.2.2.2.1, hF.2.2.2.2.2.2.2.1, hF.2.2.2.2.2.2.2.2.1, hF.2.2.2.2.2.2.2.2.2.1, hF.2.2.2.2.2.2.2.2.2.2.1, hF.2.2.2.2.2.2.2.2.2.2.2.1, hF.2.2.2.2.2.2.2.2.2.2.2.2.1, hF.2.2.2.2.2.2.2.2.2.2.2.2.2.1, hF.2.2.2.2.2.2.2.2.2.2.2.2.2.2.1, hF.2.2.2.2.2.2.2.2.2.2.2.2.2.2.2.1, hF.2.2.2.2.2.2.2.2.2.2.2.2.2.2.2.2.1, Lib.hid (fun _ => rfl), hF.2.2.2.2.2.2.2.2.2.2.2.2.2.2.2.2.2.2.1, hF.2.2.2.2.2.2.2.2.2.2.2.2.2.2.2.2.2.2.2.1, hF.2.2.2.2.2.2.2.2.2.2.2.2.2.2.2.2.2.2.2.2.1, hF.2.2.2.2.2.2.2.2.2.2.2.2.2.2.2.2.2.2.2.2.2.1, hF.2.2.2.2.2.2.2.2.2.2.2.2.2.2.2.2.2.2.2.2.2.2.1, hF.2.2.2.2.2.2.2.2.2.2.2.2.2.2.2.2.2.2.2.2.2.2.2⟩
    refine Steps.on (i := 19) (o := ?a54o19) [18] ?a54h19 18 true 34 ?a54g19 ?a54t19 ?a54d19 ?a54s19 ?a54r19
    case a54h19 => (simp only [List.getElem?_toArray, List.getElem?_cons_succ, List.getElem?_cons_zero]; rfl)
    case a54g19 => rfl
    case a54d19 => kernel_rfl
    case a54t19 => kernel_rfl
    case a54s19 =>
      rintro L aa w h0 ⟨e18, _⟩ ⟨v17, v18, v19, v20, v21, v22, v23, v24, v25, v26, v27, v28, v29, v30, v31, v32, v33, v34, v35, v36, v37, v38, v39, v0, Ax, cx, b8, rfl, hB, hY, h8, hF⟩ K hK
      obtain rfl := (hF.2.2.2.2.2.2.2.2.2.2.2.2.2.2.2.2.2.1).out e18
      simp only [fr, List.foldl_cons, List.foldl_nil, Act.put, List.setIfInBounds_toArray, List.set_cons_zero, List.set_cons_succ]
      refine ⟨by rfl, ?_⟩
      go_simp
      exact hK _ _ ⟨v17, v18, v19, v20, v21, v22, v23, v24, v25, v26, v27, v28, v29, v30, v31, v32, v33, (Value.bool true), (Value.pointer (some ⟨g2, 0, none⟩)), v36, v37, v38, v39, v0, Ax, cx, b8, (by (simp only [fr, List.foldl_cons, List.foldl_nil, Act.put, List.setIfInBounds_toArray, List.set_cons_zero, List.set_cons_succ]); try rfl), hB, hY, h8, hF.1, hF.2.1, hF.2.2.1, hF.2.2.2.1, hF.2.2.2.2.1, hF.2.2.2.2.2.1, hF.2.2.2.2.2.2.1, hF.2.2.2.2.2.2.2.1, hF.2.2.2.2.2.2.2.2.1, hF.2.2.2.2.2.2.2.2.2.1, hF.2.2.2.2.2.2.2.2.2.2.1, hF.2.2.2.2.2.2.2.2.2.2.2.1, hF.2.2.2.2.2.2.2.2.2.2.2.2.1, hF.2.2.2.2.2.2.2.2.2.2.2.2.2.1, hF.2.2.2.2.2.2.2.2.2.2.2.2.2.2.1, hF.2.2.2.2.2.2.2.2.2.2.2.2.2.2.2.1, hF.2.2.2.2.2.2.2.2.2.2.2.2.2.2.2.2.1, hF.2.2.2.2.2.2.2.2.2.2.2.2.2.2.2.2.2.1, Lib.hid (fun _ => rfl), hF.2.2.2.2.2.2.2.2.2.2.2.2.2.2.2.2.2.2.2.1, hF.2.2.2.2.2.2.2.2.2.2.2.2.2.2.2.2.2.2.2.2.1, hF.2.2.2.2.2.2.2.2.2.2.2.2.2.2.2.2.2.2.2.2.2.1, hF.2.2.2.2.2.2.2.2.2.2.2.2.2.2.2.2.2.2.2.2.2.2.1, hF.2.2.2.2.2.2.2.2.2.2.2.2.2.2.2.2.2.2.2.2.2.2.2⟩
    refine Steps.on (i := 20) (o := ?a54o20) [18, 19] ?a54h20 18 true 34 ?a54g20 ?a54t20 ?a54d20 ?a54s20 ?a54r20
    case a54h20 => (simp only [List.getElem?_toArray, List.getElem?_cons_succ, List.getElem?_cons_zero]; rfl)
    case a54g20 => rfl
    case a54d20 => kernel_rfl
    case a54t20 => kernel_rfl
    case a54s20 =>
      rintro L aa w h0 ⟨e18, e19, _⟩ ⟨v17, v18, v19, v20, v21, v22, v23, v24, v25, v26, v27, v28, v29, v30, v31, v32, v33, v34, v35, v36, v37, v38, v39, v0, Ax, cx, b8, rfl, hB, hY, h8, hF⟩ K hK
      obtain rfl := (hF.2.2.2.2.2.2.2.2.2.2.2.2.2.2.2.2.2.1).out e18
      obtain rfl := (hF.2.2.2.2.2.2.2.2.2.2.2.2.2.2.2.2.2.2.1).out e19
      simp only [fr, List.foldl_cons, List.foldl_nil, Act.put, List.setIfInBounds_toArray, List.set_cons_zero, List.set_cons_succ]
      refine ⟨by rfl, ?_⟩
      go_simp
      refine (HR2.out _ (HT2.out.call hB)).mono ?_
      rintro e w5 ⟨rfl, rfl⟩
      exact hK _ _ ⟨v17, v18, v19, v20, v21, v22, v23, v24, v25, v26, v27, v28, v29, v30, v31, v32, v33, (Value.bool true), (Value.pointer (some ⟨g2, 0, none⟩)), (Value.int .u64 r2), v37, v38, v39, v0, Ax, cx, b8, (by (simp only [fr, List.foldl_cons, List.foldl_nil, Act.put, List.setIfInBounds_toArray, List.set_cons_zero, List.set_cons_succ]); try rfl), hB, hY, h8, hF.1, hF.2.1, hF.2.2.1, hF.2.2.2.1, hF.2.2.2.2.1, hF.2.2.2.2.2.1, hF.2.2.2.2.2.2.1, hF.2.2.2.2.2.2.2.1, hF.2.2.2.2.2.2.2.2.1, hF.2.2.2.2.2.2.2.2.2.1, hF.2.2.2.2.2.2.2.2.2.2.1, hF.2.2.2.2.2.2.2.2.2.2.2.1, hF.2.2.2.2.2.2.2.2.2.2.2.2.1, hF.2.2.2.2.2.2.2.2.2.2.2.2.2.1, hF.2.2.2.2.2.2.2.2.2.2.2.2.2.2.1, hF.2.2.2.2.2.2.2.2.2.2.2.2.2.2.2.1, hF.2.2.2.2.2.2.2.2.2.2.2.2.2.2.2.2.1, hF.2.2.2.2.2.2.2.2.2.2.2.2.2.2.2.2.2.1, hF.2.2.2.2.2.2.2.2.2.2.2.2.2.2.2.2.2.2.1, Lib.hid (fun _ => rfl), hF.2.2.2.2.2.2.2.2.2.2.2.2.2.2.2.2.2.2.2.2.1, hF.2.2.2.2.2.2.2.2.2.2.2.2.2.2.2.2.2.2.2.2.2.1, hF.2.2.2.2.2.2.2.2.2.2.2.2.2.2.2.2.2.2.2.2.2.2.1, hF.2.2.2.2.2.2.2.2.2.2.2.2.2.2.2.2.2.2.2.2.2.2.2⟩
    refine Steps.on (i := 21) (o := ?a54o21) [18] ?a54h21 18 true 34 ?a54g21 ?a54t21 ?a54d21 ?a54s21 ?a54r21
    case a54h21 => (simp only [List.getElem?_toArray, List.getElem?_cons_succ, List.getElem?_cons_zero]; rfl)
    case a54g21 => rfl
    case a54d21 => kernel_rfl
    case a54t21 => kernel_rfl
    case a54s21 =>
      rintro L aa w h0 ⟨e18, _⟩ ⟨v17, v18, v19, v20, v21, v22, v23, v24, v25, v26, v27, v28, v29, v30, v31, v32, v33, v34, v35, v36, v37, v38, v39, v0, Ax, cx, b8, rfl, hB, hY, h8, hF⟩ K hK
      obtain rfl := (hF.2.2.2.2.2.2.2.2.2.2.2.2.2.2.2.2.2.1).out e18
      simp only [fr, List.foldl_cons, List.foldl_nil, Act.put, List.setIfInBounds_toArray, List.set_cons_zero, List.set_cons_succ]
      refine ⟨by rfl, ?_⟩
      have y0 : w.cell? ⟨bx, 0, none⟩ = some (.int .i64 2) := (VX.out.call hB).cell 0
      have y1 : w.cell? ⟨bx, 1, none⟩ = some (.int .i64 9) := (VX.out.call hB).cell 1
      have y : w.cell? ⟨bx, 2, none⟩ = some (.slice A3 2 c3) := (VX.out.call hB).cell 2
      go_simp
      exact hK _ _ ⟨v17, v18, v19, v20, v21, v22, v23, v24, v25, v26, v27, v28, v29, v30, v31, v32, v33, (Value.bool true), v35, v36, (Value.agg #[.int .i64 2, .int .i64 9, .slice A3 2 c3]), v38, v39, v0, Ax, cx, b8, (by (simp only [fr, List.foldl_cons, List.foldl_nil, Act.put, List.setIfInBounds_toArray, List.set_cons_zero, List.set_cons_succ]); try rfl), hB, hY, h8, hF.1, hF.2.1, hF.2.2.1, hF.2.2.2.1, hF.2.2.2.2.1, hF.2.2.2.2.2.1, hF.2.2.2.2.2.2.1, hF.2.2.2.2.2.2.2.1, hF.2.2.2.2.2.2.2.2.1, hF.2.2.2.2.2.2.2.2.2.1, hF.2.2.2.2.2.2.2.2.2.2.1, hF.2.2.2.2.2.2.2.2.2.2.2.1, hF.2.2.2.2.2.2.2.2.2.2.2.2.1, hF.2.2.2.2.2.2.2.2.2.2.2.2.2.1, hF.2.2.2.2.2.2.2.2.2.2.2.2.2.2.1, hF.2.2.2.2.2.2.2.2.2.2.2.2.2.2.2.1, hF.2.2.2.2.2.2.2.2.2.2.2.2.2.2.2.2.1, hF.2.2.2.2.2.2.2.2.2.2.2.2.2.2.2.2.2.1, hF.2.2.2.2.2.2.2.2.2.2.2.2.2.2.2.2.2.2.1, hF.2.2.2.2.2.2.2.2.2.2.2.2.2.2.2.2.2.2.2.1, Lib.hid (fun _ => rfl), hF.2.2.2.2.2.2.2.2.2.2.2.2.2.2.2.2.2.2.2.2.2.1, hF.2.2.2.2.2.2.2.2.2.2.2.2.2.2.2.2.2.2.2.2.2.2.1, hF.2.2.2.2.2.2.2.2.2.2.2.2.2.2.2.2.2.2.2.2.2.2.2⟩
    refine Steps.on (i := 22) (o := ?a54o22) [18, 20, 21] ?a54h22 18 true 34 ?a54g22 ?a54t22 ?a54d22 ?a54s22 ?a54r22
    case a54h22 => (simp only [List.getElem?_toArray, List.getElem?_cons_succ, List.getElem?_cons_zero]; rfl)
    case a54g22 => rfl
    case a54d22 => kernel_rfl
    case a54t22 => kernel_rfl
    case a54s22 =>
      rintro L aa w h0 ⟨e18, e20, e21, _⟩ ⟨v17, v18, v19, v20, v21, v22, v23, v24, v25, v26, v27, v28, v29, v30, v31, v32, v33, v34, v35, v36, v37, v38, v39, v0, Ax, cx, b8, rfl, hB, hY, h8, hF⟩ K hK
      obtain rfl := (hF.2.2.2.2.2.2.2.2.2.2.2.2.2.2.2.2.2.1).out e18
      obtain rfl := (hF.2.2.2.2.2.2.2.2.2.2.2.2.2.2.2.2.2.2.2.1).out e20
      obtain rfl := (hF.2.2.2.2.2.2.2.2.2.2.2.2.2.2.2.2.2.2.2.2.1).out e21
      simp only [fr, List.foldl_cons, List.foldl_nil, Act.put, List.setIfInBounds_toArray, List.set_cons_zero, List.set_cons_succ]
      refine ⟨by rfl, ?_⟩
      go_simp
      refine (verify_any r2 3 2 9 A3 2 c3 pf _ (by omega) (rd_step HRX.out hB)).mono ?_
      rintro e w5 ⟨rfl, hb5⟩
      rw [show ((3 : Nat) : Int) = 3 from rfl, HV.out]
      exact hK _ _ ⟨v17, v18, v19, v20, v21, v22, v23, v24, v25, v26, v27, v28, v29, v30, v31, v32, v33, (Value.bool true), v35, (Value.int .u64 r2), (Value.agg #[.int .i64 2, .int .i64 9, .slice A3 2 c3]), (Value.bool true), v39, v0, Ax, cx, b8, (by (simp only [fr, List.foldl_cons, List.foldl_nil, Act.put, List.setIfInBounds_toArray, List.set_cons_zero, List.set_cons_succ]); try rfl), b_call hB hb5, hY, Lib.hid (fun l => (h8.out l).call hb5), hF.1, hF.2.1, hF.2.2.1, hF.2.2.2.1, hF.2.2.2.2.1, hF.2.2.2.2.2.1, hF.2.2.2.2.2.2.1, hF.2.2.2.2.2.2.2.1, hF.2.2.2.2.2.2.2.2.1, hF.2.2.2.2.2.2.2.2.2.1, hF.2.2.2.2.2.2.2.2.2.2.1, hF.2.2.2.2.2.2.2.2.2.2.2.1, hF.2.2.2.2.2.2.2.2.2.2.2.2.1, hF.2.2.2.2.2.2.2.2.2.2.2.2.2.1, hF.2.2.2.2.2.2.2.2.2.2.2.2.2.2.1, hF.2.2.2.2.2.2.2.2.2.2.2.2.2.2.2.1, hF.2.2.2.2.2.2.2.2.2.2.2.2.2.2.2.2.1, hF.2.2.2.2.2.2.2.2.2.2.2.2.2.2.2.2.2.1, hF.2.2.2.2.2.2.2.2.2.2.2.2.2.2.2.2.2.2.1, hF.2.2.2.2.2.2.2.2.2.2.2.2.2.2.2.2.2.2.2.1, hF.2.2.2.2.2.2.2.2.2.2.2.2.2.2.2.2.2.2.2.2.1, Lib.hid (fun _ => rfl), hF.2.2.2.2.2.2.2.2.2.2.2.2.2.2.2.2.2.2.2.2.2.2.1, hF.2.2.2.2.2.2.2.2.2.2.2.2.2.2.2.2.2.2.2.2.2.2.2⟩
    refine Steps.plain (i := 23) (o := ?a54o23) [18, 22] ?a54h23 ?a54g23 ?a54d23 ?a54s23 ?a54r23
    case a54h23 => (simp only [List.getElem?_toArray, List.getElem?_cons_succ, List.getElem?_cons_zero]; rfl)
    case a54g23 => rfl
    case a54d23 => kernel_rfl
    case a54s23 =>
      rintro L aa w h0 ⟨e18, e22, _⟩ ⟨v17, v18, v19, v20, v21, v22, v23, v24, v25, v26, v27, v28, v29, v30, v31, v32, v33, v34, v35, v36, v37, v38, v39, v0, Ax, cx, b8, rfl, hB, hY, h8, hF⟩ K hK
      obtain rfl := (hF.2.2.2.2.2.2.2.2.2.2.2.2.2.2.2.2.2.1).out e18
      obtain rfl := (hF.2.2.2.2.2.2.2.2.2.2.2.2.2.2.2.2.2.2.2.2.2.1).out e22
      simp only [fr, List.foldl_cons, List.foldl_nil, Act.put, List.setIfInBounds_toArray, List.set_cons_zero, List.set_cons_succ]
      go_simp
      exact hK _ _ ⟨v17, v18, v19, v20, v21, v22, v23, v24, v25, v26, v27, v28, v29, v30, v31, v32, v33, (Value.bool true), v35, v36, v37, (Value.bool true), (Value.bool true), v0, Ax, cx, b8, (by (simp only [fr, List.foldl_cons, List.foldl_nil, Act.put, List.setIfInBounds_toArray, List.set_cons_zero, List.set_cons_succ]); try rfl), hB, hY, h8, hF.1, hF.2.1, hF.2.2.1, hF.2.2.2.1, hF.2.2.2.2.1, hF.2.2.2.2.2.1, hF.2.2.2.2.2.2.1, hF.2.2.2.2.2.2.2.1, hF.2.2.2.2.2.2.2.2.1, hF.2.2.2.2.2.2.2.2.2.1, hF.2.2.2.2.2.2.2.2.2.2.1, hF.2.2.2.2.2.2.2.2.2.2.2.1, hF.2.2.2.2.2.2.2.2.2.2.2.2.1, hF.2.2.2.2.2.2.2.2.2.2.2.2.2.1, hF.2.2.2.2.2.2.2.2.2.2.2.2.2.2.1, hF.2.2.2.2.2.2.2.2.2.2.2.2.2.2.2.1, hF.2.2.2.2.2.2.2.2.2.2.2.2.2.2.2.2.1, hF.2.2.2.2.2.2.2.2.2.2.2.2.2.2.2.2.2.1, hF.2.2.2.2.2.2.2.2.2.2.2.2.2.2.2.2.2.2.1, hF.2.2.2.2.2.2.2.2.2.2.2.2.2.2.2.2.2.2.2.1, hF.2.2.2.2.2.2.2.2.2.2.2.2.2.2.2.2.2.2.2.2.1, hF.2.2.2.2.2.2.2.2.2.2.2.2.2.2.2.2.2.2.2.2.2.1, Lib.hid (fun _ => rfl), hF.2.2.2.2.2.2.2.2.2.2.2.2.2.2.2.2.2.2.2.2.2.2.2⟩
    refine Steps.plain (i := 24) (o := ?a54o24) [23] ?a54h24 ?a54g24 ?a54d24 ?a54s24 ?a54r24
    case a54h24 => (simp only [List.getElem?_toArray, List.getElem?_cons_succ, List.getElem?_cons_zero]; rfl)
    case a54g24 => rfl
    case a54d24 => kernel_rfl
    case a54s24 =>
      rintro L aa w h0 ⟨e23, _⟩ ⟨v17, v18, v19, v20, v21, v22, v23, v24, v25, v26, v27, v28, v29, v30, v31, v32, v33, v34, v35, v36, v37, v38, v39, v0, Ax, cx, b8, rfl, hB, hY, h8, hF⟩ K hK
      obtain rfl := (hF.2.2.2.2.2.2.2.2.2.2.2.2.2.2.2.2.2.2.2.2.2.2.1).out e23
      simp only [fr, List.foldl_cons, List.foldl_nil, Act.put, List.setIfInBounds_toArray, List.set_cons_zero, List.set_cons_succ]
      go_simp
      exact hK _ _ ⟨v17, v18, v19, v20, v21, v22, v23, v24, v25, v26, v27, v28, v29, v30, v31, v32, v33, v34, v35, v36, v37, v38, (Value.bool true), (Value.bool true), Ax, cx, b8, (by (simp only [fr, List.foldl_cons, List.foldl_nil, Act.put, List.setIfInBounds_toArray, List.set_cons_zero, List.set_cons_succ]); try rfl), hB, hY, h8, hF.1, hF.2.1, hF.2.2.1, hF.2.2.2.1, hF.2.2.2.2.1, hF.2.2.2.2.2.1, hF.2.2.2.2.2.2.1, hF.2.2.2.2.2.2.2.1, hF.2.2.2.2.2.2.2.2.1, hF.2.2.2.2.2.2.2.2.2.1, hF.2.2.2.2.2.2.2.2.2.2.1, hF.2.2.2.2.2.2.2.2.2.2.2.1, hF.2.2.2.2.2.2.2.2.2.2.2.2.1, hF.2.2.2.2.2.2.2.2.2.2.2.2.2.1, hF.2.2.2.2.2.2.2.2.2.2.2.2.2.2.1, hF.2.2.2.2.2.2.2.2.2.2.2.2.2.2.2.1, hF.2.2.2.2.2.2.2.2.2.2.2.2.2.2.2.2.1, hF.2.2.2.2.2.2.2.2.2.2.2.2.2.2.2.2.2.1, hF.2.2.2.2.2.2.2.2.2.2.2.2.2.2.2.2.2.2.1, hF.2.2.2.2.2.2.2.2.2.2.2.2.2.2.2.2.2.2.2.1, hF.2.2.2.2.2.2.2.2.2.2.2.2.2.2.2.2.2.2.2.2.1, hF.2.2.2.2.2.2.2.2.2.2.2.2.2.2.2.2.2.2.2.2.2.1, hF.2.2.2.2.2.2.2.2.2.2.2.2.2.2.2.2.2.2.2.2.2.2.1, Lib.hid (fun _ => rfl)⟩
    exact Steps.nil
  case a54D =>
    rintro L aa w hL ⟨v17, v18, v19, v20, v21, v22, v23, v24, v25, v26, v27, v28, v29, v30, v31, v32, v33, v34, v35, v36, v37, v38, v39, v0, Ax, cx, b8, rfl, hB, hY, h8, hF⟩
    obtain rfl := (hF.1).out (hL 1 (by decide))
    obtain rfl := (hF.2.1).out (hL 2 (by decide))
    obtain rfl := (hF.2.2.1).out (hL 3 (by decide))
    obtain rfl := (hF.2.2.2.1).out (hL 4 (by decide))
    obtain rfl := (hF.2.2.2.2.1).out (hL 5 (by decide))
    obtain rfl := (hF.2.2.2.2.2.1).out (hL 6 (by decide))
    obtain rfl := (hF.2.2.2.2.2.2.1).out (hL 7 (by decide))
    obtain rfl := (hF.2.2.2.2.2.2.2.1).out (hL 8 (by decide))
    obtain rfl := (hF.2.2.2.2.2.2.2.2.1).out (hL 9 (by decide))
    obtain rfl := (hF.2.2.2.2.2.2.2.2.2.1).out (hL 10 (by decide))
    obtain rfl := (hF.2.2.2.2.2.2.2.2.2.2.1).out (hL 11 (by decide))
    obtain rfl := (hF.2.2.2.2.2.2.2.2.2.2.2.1).out (hL 12 (by decide))
    obtain rfl := (hF.2.2.2.2.2.2.2.2.2.2.2.2.1).out (hL 13 (by decide))
    obtain rfl := (hF.2.2.2.2.2.2.2.2.2.2.2.2.2.1).out (hL 14 (by decide))
    obtain rfl := (hF.2.2.2.2.2.2.2.2.2.2.2.2.2.2.1).out (hL 15 (by decide))
    obtain rfl := (hF.2.2.2.2.2.2.2.2.2.2.2.2.2.2.2.1).out (hL 16 (by decide))
    obtain rfl := (hF.2.2.2.2.2.2.2.2.2.2.2.2.2.2.2.2.1).out (hL 17 (by decide))
    obtain rfl := (hF.2.2.2.2.2.2.2.2.2.2.2.2.2.2.2.2.2.1).out (hL 18 (by decide))
    obtain rfl := (hF.2.2.2.2.2.2.2.2.2.2.2.2.2.2.2.2.2.2.1).out (hL 19 (by decide))
    obtain rfl := (hF.2.2.2.2.2.2.2.2.2.2.2.2.2.2.2.2.2.2.2.1).out (hL 20 (by decide))
    obtain rfl := (hF.2.2.2.2.2.2.2.2.2.2.2.2.2.2.2.2.2.2.2.2.1).out (hL 21 (by decide))
    obtain rfl := (hF.2.2.2.2.2.2.2.2.2.2.2.2.2.2.2.2.2.2.2.2.2.1).out (hL 22 (by decide))
    obtain rfl := (hF.2.2.2.2.2.2.2.2.2.2.2.2.2.2.2.2.2.2.2.2.2.2.1).out (hL 23 (by decide))
    obtain rfl := (hF.2.2.2.2.2.2.2.2.2.2.2.2.2.2.2.2.2.2.2.2.2.2.2).out (hL 24 (by decide))
    have l1 := hL 1 (by decide)
    have l2 := hL 2 (by decide)
    have l3 := hL 3 (by decide)
    have l4 := hL 4 (by decide)
    have l5 := hL 5 (by decide)
    have l6 := hL 6 (by decide)
    have l7 := hL 7 (by decide)
    have l8 := hL 8 (by decide)
    have l9 := hL 9 (by decide)
    have l10 := hL 10 (by decide)
    have l11 := hL 11 (by decide)
    have l12 := hL 12 (by decide)
    have l13 := hL 13 (by decide)
    have l14 := hL 14 (by decide)
    have l15 := hL 15 (by decide)
    have l16 := hL 16 (by decide)
    have l17 := hL 17 (by decide)
    have l18 := hL 18 (by decide)
    have l19 := hL 19 (by decide)
    have l20 := hL 20 (by decide)
    have l21 := hL 21 (by decide)
    have l22 := hL 22 (by decide)
    have l23 := hL 23 (by decide)
    have l24 := hL 24 (by decide)
    clear hL
    simp only [fr, List.foldl_cons, List.foldl_nil, Act.put, List.setIfInBounds_toArray, List.set_cons_zero, List.set_cons_succ]
    go_wp2
    go_ret
    exact ⟨rfl, b_call HBX.out hB⟩
end Go.Proofs.Ytgelhcgaacnjcaa
