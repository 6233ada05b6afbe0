/-
  WHAT IS PROVED HERE: the contract of the reference's Prove. No condition but that the cells lie in memory, and that there are no more than a thousand.
-/
import Derived.Test.YtgelhcgaacnjcaaMkI
import Derived.Deep.Cut
namespace Go.Proofs.Ytgelhcgaacnjcaa
set_option linter.unusedVariables false
open Go.ChangeShapes Go.WideShapes Go.ChangeAt Go.RowKit

theorem name_post {P : Program} {f : Func} {R : Ending → World → Prop} {e : Exit} {a : Go.Act} {W : World} (h : ∀ X, X = W → bodyPost P f R e a X) : bodyPost P f R e a W := h W rfl
set_option maxHeartbeats 1000000 in
theorem rprove_no (A : Option Addr) (n c : Nat) (cs : List Int) (i : Int) (w : World) (rd : Rd w w.heap.size 1 A n (cs.map (Value.int .i64))) (hi : ¬ (0 ≤ i ∧ i < (cs.length : Int))) :
    Calls Try.prog 13 #[.slice A n c, .int .i64 i] w (RetLf w 0 0 []) := by
  have hll : cs.length = n := by have := rd.1; simpa using this
  rw [hll] at hi
  clear hll rd
  by_cases c1 : i < 0
  · go_enter Try.func13, Try.ntmps13
    go_wp2
    refine bodyPost_ret (v := .agg #[.int .i64 0, .int .i64 0, .slice none 0 0]) (by simp [results, Try.results13, go_sem]) rfl ?_
    exact ⟨none, 0, rfl, own_nil _ _ _ _, by simp, by simp [maxLen], by (repeat (first | (with_reducible exact Below.refl _ _) | (with_reducible assumption) | (with_reducible refine b_drew ?_) | (with_reducible refine b_drewN ?_ _) | (with_reducible refine b_alloc ?_ _) | ((with_reducible refine b_set ?_ ?_ _); rotate_left; (focus (first | omega | (simp; done) | (simp; omega) | (simp at *; omega)))) | (with_reducible refine b_call ?_ (by with_reducible assumption))))⟩
  · have d1 : decide (i < 0) = false := by simpa using c1
    have d2 : decide ((n : Int) ≤ i) = true := by simp; omega
    go_enter Try.func13, Try.ntmps13
    go_wp2
    refine bodyPost_ret (v := .agg #[.int .i64 0, .int .i64 0, .slice none 0 0]) (by simp [results, Try.results13, go_sem]) rfl ?_
    exact ⟨none, 0, rfl, own_nil _ _ _ _, by simp, by simp [maxLen], by (repeat (first | (with_reducible exact Below.refl _ _) | (with_reducible assumption) | (with_reducible refine b_drew ?_) | (with_reducible refine b_drewN ?_ _) | (with_reducible refine b_alloc ?_ _) | ((with_reducible refine b_set ?_ ?_ _); rotate_left; (focus (first | omega | (simp; done) | (simp; omega) | (simp at *; omega)))) | (with_reducible refine b_call ?_ (by with_reducible assumption))))⟩
/-- a leaf's record that is being filled -/
def HoldL (W : World) (B bp : Nat) (R : Nat → Prop) (ix v : Int) (xs : List Int) : Prop := ∃ A c, (∀ k, (Value.slice A xs.length c).ownBlock = some k → R k) ∧ Vr W bp 25 #[.int .i64 ix, .int .i64 v, .slice A xs.length c] ∧ W.ownsRow B 22 1 (.slice A xs.length c) xs.length (xs.map (Value.int .u64)) ∧ xs.length ≤ c ∧ c ≤ maxLen
set_option maxHeartbeats 4000000 in
set_option maxRecDepth 100000 in
theorem rprove_yes (A : Option Addr) (n c : Nat) (cs : List Int) (i : Nat) (W0 : World) (rd : Rd W0 W0.heap.size 1 A n (cs.map (Value.int .i64))) (hn : n ≤ 1000) (hi : i < cs.length) :
    Calls Try.prog 13 #[.slice A n c, .int .i64 (i : Int)] W0 (RetLf W0 i cs[i] (prfV cs i (List.range (hgt cs.length)))) := by
  have hll : cs.length = n := by have := rd.1; simpa using this
  have h10 : hgt n ≤ 10 := hgt_min (by omega)
  obtain ⟨b, o, hl, rfl, hb, hcell⟩ := rd.openMap (k := i) (by omega)
  rw [hll]
  obtain ⟨q, hq⟩ : ∃ q, hgt n = q := ⟨_, rfl⟩
  rw [hq] at h10 ⊢
  have hp := pow10 h10
  obtain ⟨M, hM⟩ : ∃ S, 2 ^ q = S := ⟨_, rfl⟩
  have hge := hgt_ge n
  rw [hq] at hge
  rw [hM] at hp hge
  have hin : i < n := by omega
  have HQ := Lib.hid hq
  have HM := Lib.hid hM
  have RD := Lib.hid rd
  have hi0 : (0 : Int) ≤ (i : Int) := by omega
  have hi1 : (i : Int) < (n : Int) := by omega
  obtain ⟨v, hv⟩ : ∃ v, cs[i] = v := ⟨_, rfl⟩
  rw [hv] at hcell ⊢
  clear rd hll hq hM hv hl hi
  go_enter Try.func13, Try.ntmps13
  go_wp2
  refine name_world ?_
  intro X hX
  obtain ⟨B, hB⟩ : ∃ x, W0.heap.size = x := ⟨_, rfl⟩
  obtain ⟨bo, hbo⟩ : ∃ x, B + 1 = x := ⟨_, rfl⟩
  have hBX : Below W0.heap.size W0 X := by rw [hX]; (repeat (first | (with_reducible exact Below.refl _ _) | (with_reducible assumption) | (with_reducible refine b_drew ?_) | (with_reducible refine b_drewN ?_ _) | (with_reducible refine b_alloc ?_ _) | ((with_reducible refine b_set ?_ ?_ _); rotate_left; (focus (first | omega | (simp; done) | (simp; omega) | (simp at *; omega)))) | (with_reducible refine b_call ?_ (by with_reducible assumption))))
  have VR : Vr X B 25 #[.int .i64 0, .int .i64 0, .slice none 0 0] := by rw [hX, ← hB]; exact (Vr.new W0 _ _).alloc _
  have VO : Vr X bo 25 #[.int .i64 i, .int .i64 v, .slice none 0 0] := by rw [hX, ← hbo, ← hB]; exact vr_new2 W0 _ _ _
  have hXs : X.heap.size = bo + 1 := by rw [hX, ← hbo, ← hB]; simp
  have hX1 : bo < X.heap.size := by omega
  have hX2 : X.heap.size ≤ bo + 1 := by omega
  have hb1 : B < bo := by omega
  have hb2 : bo ≤ B + 1 := by omega
  have HBo := Lib.hid hbo
  have HB0 := Lib.hid hB
  have HVR := Lib.hid VR
  have HBX := Lib.hid hBX
  have RDX := Lib.hid (RD.out.below hBX (Nat.le_refl _))
  rw [hB] at RDX
  have h0 : HoldL X B bo (fun x => X.heap.size ≤ x) i v (prfV cs i (List.range 0)) := ⟨none, 0, (fun x e => by cases e), VO, own_nil _ _ _ _, by simp [prfV], by simp [maxLen]⟩
  rw [hB, hbo]
  clear hX VR VO hBX hB hcell RD hXs hbo
  go_loopw [6] (fun s wr => ∃ (j S : Nat), Hid (2 ^ j = S) ∧ j ≤ q ∧ 1 ≤ S ∧ S ≤ M ∧ s = .int .i64 S ∧ Hid (HoldL wr B bo (fun x => X.heap.size ≤ x) i v (prfV cs i (List.range j))) ∧ Hid (Only (· = bo) X wr)) (fun s _ => M + 1 - (intOf s).toNat)
  case atStart => exact ⟨0, 1, rfl, by omega, by omega, by omega, rfl, Lib.hid h0, Lib.hid (Only.refl _ _)⟩
  case round =>
    clear h0
    obtain ⟨j, S, HS, hj, hS1, hSM, rfl, HHL, HOX⟩ := hrel
    obtain ⟨Z, rfl⟩ : ∃ Z : World, Z = wr := ⟨_, rfl⟩
    by_cases hlt : S < M
    · have hj1 : j + 1 ≤ q := by
        rcases Nat.lt_or_ge j q with h | h
        · omega
        · have h3 := HM.out
          rw [show q = j from by omega, HS.out] at h3
          omega
      have h2S : 2 * S ≤ M := by
        have := Nat.pow_le_pow_right (n := 2) (by omega) hj1
        rw [Nat.pow_succ, HS.out, HM.out] at this
        omega
      have dM : decide ((S : Int) < (M : Int)) = true := by simp; omega
      obtain ⟨A1, c1, hR, hV, hown, hc1, hc2⟩ := HHL.out
      rw [prfV_len, List.length_range] at hR hV hown hc1
      have HPH := Lib.hid (show prfV cs i (List.range (j + 1)) = prfV cs i (List.range j) ++ [nV cs j (sib (i / 2 ^ j))] from by rw [List.range_succ, prfV_snoc])
      obtain ⟨xs, hxs⟩ : ∃ xs, prfV cs i (List.range j) = xs := ⟨_, rfl⟩
      obtain ⟨k, hk⟩ : ∃ k : Nat, i / S = k := ⟨_, rfl⟩
      obtain ⟨P, hP0⟩ : ∃ P : Nat, k * S = P := ⟨_, rfl⟩
      obtain ⟨p, hp0⟩ : ∃ p, nV cs j (sib k) = p := ⟨_, rfl⟩
      rw [hxs] at hown
      rw [hxs, HS.out, hk, hp0] at HPH
      have hPi : P ≤ i := by rw [← hP0, ← hk]; exact Nat.div_mul_le_self i S
      have HVZ := Lib.hid hV
      have HOZ := Lib.hid hown
      have HRR := Lib.hid hR
      have hsz := HOX.out.size
      have HXZ := Lib.hid hsz
      have RDZ0 := Lib.hid (RDX.out.only HOX.out (by omega) (fun x hx e => by omega))
      have hrow : ¬ (Value.slice A1 j c1).ownBlock = some bo := fun e => by have := hR _ e; omega
      have below_only : ∀ {w : World}, Only (fun x => x = bo ∨ (Value.slice A1 j c1).ownBlock = some x) Z w → ∀ x, x < B → w.heap[x]? = Z.heap[x]? := fun {w} h x hx => h.heap (by omega) (fun e => by rcases e with e | e; omega; have := hR _ e; omega)
      have e1 : (i : Int) / (S : Int) = (k : Int) := by rw [← hk]; rfl
      have HPk := Lib.hid hP0
      have hkb : k ≤ 1000 := by
        have := Nat.le_mul_of_pos_right k hS1
        omega
      by_cases hev : k % 2 = 0
      · have e2 : (k : Int) * (S : Int) = (P : Int) := by rw [← hP0, Int.natCast_mul]
        have q1 : ((k : Int) % 2 == 0) = true := by simp; omega
        have HPP := Lib.hid (show nV cs j (k + 1) = p from by rw [← hp0]; unfold sib; rw [if_pos hev])
        have HN1 := Lib.hid (show P + S = (k + 1) * 2 ^ j from by rw [HS.out, Nat.add_mul, hP0, Nat.one_mul])
        have HN2 := Lib.hid (show P + 2 * S = P + S + 2 ^ j from by rw [HS.out]; omega)
        have hE : P + 2 * S ≤ 1000000 := by omega
        clear hR hV hown hp0 hxs hk hP0 hev HHL
        go_wp2_with fail
        refine (size_any n M _ (by omega) (by rw [HQ.out, HM.out])).mono ?_
        rintro e w_ ⟨rfl, rfl⟩
        go_wp2
        clear e1 e2 q1
        have E45 := Lib.hid (show IntKind.i64.wrap ((P : Int) + S) = (P : Int) + S from IntWalk.i64_in _ (by omega))
        have E48 := Lib.hid (show IntKind.i64.wrap (2 * (S : Int)) = 2 * (S : Int) from IntWalk.i64_in _ (by omega))
        have E49 := Lib.hid (show IntKind.i64.wrap ((P : Int) + 2 * (S : Int)) = (P : Int) + 2 * (S : Int) from IntWalk.i64_in _ (by omega))
        refine wp_region_any (by kernel_rfl) ?_
        change wpAny _ _ _ _ _ _ _ (World.drew _)
        refine take_at (i := 2) (some 42) (v := ?vg44) rfl rfl (by kernel_rfl) (by kernel_rfl) (by kernel_rfl) (fun _ _ _ h => h) (Or.inl ⟨by rfl, ?hg44⟩) ?rg44
        case hg44 => (intro w0; go_simp; try with_reducible rfl)
        simp only [Act.put, List.setIfInBounds_toArray, List.set_cons_zero, List.set_cons_succ]
        refine take_at (i := 3) (some 43) (v := ?vg45) rfl rfl (by kernel_rfl) (by kernel_rfl) (by kernel_rfl) (fun _ _ _ h => h) (Or.inl ⟨by rfl, ?hg45⟩) ?rg45
        case hg45 => (intro w0; go_simp; try with_reducible rfl)
        simp only [Act.put, List.setIfInBounds_toArray, List.set_cons_zero, List.set_cons_succ]
        refine take_at (i := 4) (some 44) (v := ?vg46) rfl rfl (by kernel_rfl) (by kernel_rfl) (by kernel_rfl) (fun _ _ _ h => h) (Or.inl ⟨by rfl, ?hg46⟩) ?rg46
        case hg46 => (intro w0; go_simp; try with_reducible rfl)
        simp only [Act.put, List.setIfInBounds_toArray, List.set_cons_zero, List.set_cons_succ]
        refine take_at (i := 6) (some 46) (v := ?vg47) rfl rfl (by kernel_rfl) (by kernel_rfl) (by kernel_rfl) (fun _ _ _ h => h) (Or.inl ⟨by rfl, ?hg47⟩) ?rg47
        case hg47 => (intro w0; go_simp; try with_reducible rfl)
        simp only [Act.put, List.setIfInBounds_toArray, List.set_cons_zero, List.set_cons_succ]
        refine take_at (i := 7) (some 47) (v := ?vg48) rfl rfl (by kernel_rfl) (by kernel_rfl) (by kernel_rfl) (fun _ _ _ h => h) (Or.inl ⟨by rfl, ?hg48⟩) ?rg48
        case hg48 => (intro w0; go_simp; try with_reducible rfl)
        simp only [Act.put, List.setIfInBounds_toArray, List.set_cons_zero, List.set_cons_succ]
        refine wpAny_go (fun A0 L aa w => ∃ (v40 v41 v45 v48 v49 v50 v51 v52 v53 : Value) (b7 : Nat) (A2 : Option Addr) (c2 : Nat), aa = fr A0 [(40, v40), (41, v41), (45, v45), (48, v48), (49, v49), (50, v50), (51, v51), (52, v52), (53, v53)] ∧ ((L 14 = true → L 1 = true ∧ L 12 = true) ∧ (L 12 = true → L 11 = true)) ∧ (Only (fun x => x = bo ∨ (Value.slice A1 j c1).ownBlock = some x) Z w) ∧ (Hid ((L 14 = false → Vr w bo 25 #[.int .i64 i, .int .i64 v, .slice A1 j c1]) ∧ (L 14 = true → Vr w bo 25 #[.int .i64 i, .int .i64 v, .slice A2 (j + 1) c2]))) ∧ (Hid (L 12 = false → w.ownsRow B 22 1 (.slice A1 j c1) j (xs.map (Value.int .u64)))) ∧ (Hid (L 11 = true → L 12 = false → Vr w b7 22 #[.int .u64 p])) ∧ (Hid (L 12 = true → w.ownsRow B 22 1 (.slice A2 (j + 1) c2) (j + 1) ((xs ++ [p]).map (Value.int .u64)) ∧ j + 1 ≤ c2 ∧ c2 ≤ maxLen ∧ ∀ x, (Value.slice A2 (j + 1) c2).ownBlock = some x → (Value.slice A1 j c1).ownBlock = some x ∨ Z.heap.size ≤ x)) ∧ Hid (L 0 = true → v40 = Value.pointer (some ⟨bo, 2, none⟩)) ∧ Hid (L 1 = true → v41 = Value.slice A1 j c1) ∧ Hid (L 5 = true → v45 = Value.int .i64 ((P : Int) + S)) ∧ Hid (L 8 = true → v48 = Value.int .i64 (2 * (S : Int))) ∧ Hid (L 9 = true → v49 = Value.int .i64 ((P : Int) + 2 * (S : Int))) ∧ Hid (L 10 = true → v50 = Value.int .u64 p) ∧ Hid (L 11 = true → v51 = Value.slice (some ⟨b7, 0, none⟩) 1 1) ∧ Hid (L 12 = true → v52 = Value.slice A2 (j + 1) c2) ∧ Hid (L 13 = true → v53 = Value.pointer (some ⟨bo, 2, none⟩))) [0, 1, 5, 8, 9, 10, 11, 12, 13, 14] (by kernel_rfl) (by kernel_rfl) ?a43I ?a43S ?a43D
        case a43I =>
          refine ⟨?a43v40, ?a43v41, ?a43v45, ?a43v48, ?a43v49, ?a43v50, ?a43v51, ?a43v52, ?a43v53, 0, none, 0, ?a43fr, ⟨no_yet (by kernel_rfl), no_yet (by kernel_rfl)⟩, (Only.refl _ _).drew, Lib.hid ⟨fun _ => HVZ.out.drew, no_yet (by kernel_rfl)⟩, Lib.hid (fun _ => own_drew HOZ.out), Lib.hid (no_yet (by kernel_rfl)), Lib.hid (no_yet (by kernel_rfl)), Lib.hid (no_yet (by kernel_rfl)), Lib.hid (no_yet (by kernel_rfl)), Lib.hid (no_yet (by kernel_rfl)), Lib.hid (no_yet (by kernel_rfl)), Lib.hid (no_yet (by kernel_rfl)), Lib.hid (no_yet (by kernel_rfl)), Lib.hid (no_yet (by kernel_rfl)), Lib.hid (no_yet (by kernel_rfl)), Lib.hid (no_yet (by kernel_rfl))⟩
          case a43fr => (simp only [fr, List.foldl_cons, List.foldl_nil, Act.put, List.setIfInBounds_toArray, List.set_cons_zero, List.set_cons_succ]; rfl)
        case a43S =>
          refine Steps.go (i := 0) (o := _) rfl ?a43s0 (Steps.go (i := 1) (o := _) rfl ?a43s1 (Steps.go (i := 5) (o := _) rfl ?a43s5 (Steps.go (i := 8) (o := _) rfl ?a43s8 (Steps.go (i := 9) (o := _) rfl ?a43s9 (Steps.go (i := 10) (o := _) rfl ?a43s10 (Steps.go (i := 11) (o := _) rfl ?a43s11 (Steps.go (i := 12) (o := _) rfl ?a43s12 (Steps.go (i := 13) (o := _) rfl ?a43s13 (Steps.go (i := 14) (o := _) rfl ?a43s14 Steps.nil)))))))))
          · rintro L aa w h0 hd ⟨v40, v41, v45, v48, v49, v50, v51, v52, v53, b7, A2, c2, rfl, hY, hO2, hP, hOwn, h7, hA, f0, f1, f5, f8, f9, f10, f11, f12, f13⟩ K hK
            simp only [fr, List.foldl_cons, List.foldl_nil, Act.put, List.setIfInBounds_toArray, List.set_cons_zero, List.set_cons_succ]
            go_simp
            exact hK _ _ ⟨(Value.pointer (some ⟨bo, 2, none⟩)), v41, v45, v48, v49, v50, v51, v52, v53, b7, A2, c2, (by simp only [fr, List.foldl_cons, List.foldl_nil, Act.put, List.setIfInBounds_toArray, List.set_cons_zero, List.set_cons_succ]), hY, hO2, hP, hOwn, h7, hA, Lib.hid (fun _ => rfl), f1, f5, f8, f9, f10, f11, f12, f13⟩
          · rintro L aa w h0 hd ⟨v40, v41, v45, v48, v49, v50, v51, v52, v53, b7, A2, c2, rfl, hY, hO2, hP, hOwn, h7, hA, f0, f1, f5, f8, f9, f10, f11, f12, f13⟩ K hK
            obtain rfl := f0.out (hd 0 (by kernel_rfl))
            simp only [fr, List.foldl_cons, List.foldl_nil, Act.put, List.setIfInBounds_toArray, List.set_cons_zero, List.set_cons_succ]
            have e14 : L 14 = false := by rcases h : L 14 with _ | _ <;> first | rfl | exact absurd (hY.1 h).1 (by simp [h0])
            have y0 : w.cell? ⟨bo, 2, none⟩ = some (.slice A1 j c1) := (hP.out.1 e14).cell 2
            go_simp
            exact hK _ _ ⟨(Value.pointer (some ⟨bo, 2, none⟩)), (Value.slice A1 j c1), v45, v48, v49, v50, v51, v52, v53, b7, A2, c2, (by simp only [fr, List.foldl_cons, List.foldl_nil, Act.put, List.setIfInBounds_toArray, List.set_cons_zero, List.set_cons_succ]), ⟨fun h => ⟨rfl, (hY.1 h).2⟩, hY.2⟩, hO2, hP, hOwn, h7, hA, f0, Lib.hid (fun _ => rfl), f5, f8, f9, f10, f11, f12, f13⟩
          · rintro L aa w h0 hd ⟨v40, v41, v45, v48, v49, v50, v51, v52, v53, b7, A2, c2, rfl, hY, hO2, hP, hOwn, h7, hA, f0, f1, f5, f8, f9, f10, f11, f12, f13⟩ K hK
            simp only [fr, List.foldl_cons, List.foldl_nil, Act.put, List.setIfInBounds_toArray, List.set_cons_zero, List.set_cons_succ]
            have x := E45.out
            go_simp
            exact hK _ _ ⟨v40, v41, (Value.int .i64 ((P : Int) + S)), v48, v49, v50, v51, v52, v53, b7, A2, c2, (by simp only [fr, List.foldl_cons, List.foldl_nil, Act.put, List.setIfInBounds_toArray, List.set_cons_zero, List.set_cons_succ]), hY, hO2, hP, hOwn, h7, hA, f0, f1, Lib.hid (fun _ => rfl), f8, f9, f10, f11, f12, f13⟩
          · rintro L aa w h0 hd ⟨v40, v41, v45, v48, v49, v50, v51, v52, v53, b7, A2, c2, rfl, hY, hO2, hP, hOwn, h7, hA, f0, f1, f5, f8, f9, f10, f11, f12, f13⟩ K hK
            simp only [fr, List.foldl_cons, List.foldl_nil, Act.put, List.setIfInBounds_toArray, List.set_cons_zero, List.set_cons_succ]
            have x := E48.out
            go_simp
            exact hK _ _ ⟨v40, v41, v45, (Value.int .i64 (2 * (S : Int))), v49, v50, v51, v52, v53, b7, A2, c2, (by simp only [fr, List.foldl_cons, List.foldl_nil, Act.put, List.setIfInBounds_toArray, List.set_cons_zero, List.set_cons_succ]), hY, hO2, hP, hOwn, h7, hA, f0, f1, f5, Lib.hid (fun _ => rfl), f9, f10, f11, f12, f13⟩
          · rintro L aa w h0 hd ⟨v40, v41, v45, v48, v49, v50, v51, v52, v53, b7, A2, c2, rfl, hY, hO2, hP, hOwn, h7, hA, f0, f1, f5, f8, f9, f10, f11, f12, f13⟩ K hK
            obtain rfl := f8.out (hd 8 (by kernel_rfl))
            simp only [fr, List.foldl_cons, List.foldl_nil, Act.put, List.setIfInBounds_toArray, List.set_cons_zero, List.set_cons_succ]
            have x := E49.out
            go_simp
            exact hK _ _ ⟨v40, v41, v45, (Value.int .i64 (2 * (S : Int))), (Value.int .i64 ((P : Int) + 2 * (S : Int))), v50, v51, v52, v53, b7, A2, c2, (by simp only [fr, List.foldl_cons, List.foldl_nil, Act.put, List.setIfInBounds_toArray, List.set_cons_zero, List.set_cons_succ]), hY, hO2, hP, hOwn, h7, hA, f0, f1, f5, f8, Lib.hid (fun _ => rfl), f10, f11, f12, f13⟩
          · rintro L aa w h0 hd ⟨v40, v41, v45, v48, v49, v50, v51, v52, v53, b7, A2, c2, rfl, hY, hO2, hP, hOwn, h7, hA, f0, f1, f5, f8, f9, f10, f11, f12, f13⟩ K hK
            obtain rfl := f5.out (hd 5 (by kernel_rfl))
            obtain rfl := f9.out (hd 9 (by kernel_rfl))
            simp only [fr, List.foldl_cons, List.foldl_nil, Act.put, List.setIfInBounds_toArray, List.set_cons_zero, List.set_cons_succ]
            go_simp
            refine (rnode_any _ n c cs hn j (k + 1) (P + S) (P + 2 * S) _ ((RDZ0.out.keep (below_only hO2)).more (by have := hO2.size; omega)) HN1.out HN2.out hE).mono ?_
            rintro e w3 ⟨rfl, hb3⟩
            rw [HPP.out]
            exact hK _ _ ⟨v40, v41, (Value.int .i64 ((P : Int) + S)), v48, (Value.int .i64 ((P : Int) + 2 * (S : Int))), (Value.int .u64 p), v51, v52, v53, b7, A2, c2, (by simp only [fr, List.foldl_cons, List.foldl_nil, Act.put, List.setIfInBounds_toArray, List.set_cons_zero, List.set_cons_succ]), hY, of_below hO2 hb3, Lib.hid ⟨fun h => (hP.out.1 h).call hb3, fun h => (hP.out.2 h).call hb3⟩, Lib.hid (fun h => own_below (hOwn.out h) hb3), Lib.hid (fun h h8 => (h7.out h h8).call hb3), Lib.hid (fun h => ⟨own_below (hA.out h).1 hb3, (hA.out h).2⟩), f0, f1, f5, f8, f9, Lib.hid (fun _ => rfl), f11, f12, f13⟩
          · rintro L aa w h0 hd ⟨v40, v41, v45, v48, v49, v50, v51, v52, v53, b7, A2, c2, rfl, hY, hO2, hP, hOwn, h7, hA, f0, f1, f5, f8, f9, f10, f11, f12, f13⟩ K hK
            obtain rfl := f10.out (hd 10 (by kernel_rfl))
            simp only [fr, List.foldl_cons, List.foldl_nil, Act.put, List.setIfInBounds_toArray, List.set_cons_zero, List.set_cons_succ]
            have e12 : L 12 = false := by rcases h : L 12 with _ | _ <;> first | rfl | exact absurd (hY.2 h) (by simp [h0])
            go_simp
            exact hK _ _ ⟨v40, v41, v45, v48, v49, (Value.int .u64 p), (Value.slice (some ⟨(w.heap.size), 0, none⟩) 1 1), v52, v53, w.heap.size, A2, c2, (by simp only [fr, List.foldl_cons, List.foldl_nil, Act.put, List.setIfInBounds_toArray, List.set_cons_zero, List.set_cons_succ]), ⟨hY.1, fun _ => rfl⟩, hO2.alloc _, Lib.hid ⟨fun h => (hP.out.1 h).alloc _, fun h => (hP.out.2 h).alloc _⟩, Lib.hid (fun h => (hOwn.out h).alloc _), Lib.hid (fun _ _ => Vr.new w _ _), Lib.hid (no_yet e12), f0, f1, f5, f8, f9, f10, Lib.hid (fun _ => rfl), f12, f13⟩
          · rintro L aa w h0 hd ⟨v40, v41, v45, v48, v49, v50, v51, v52, v53, b7, A2, c2, rfl, hY, hO2, hP, hOwn, h7, hA, f0, f1, f5, f8, f9, f10, f11, f12, f13⟩ K hK
            obtain rfl := f1.out (hd 1 (by kernel_rfl))
            obtain rfl := f11.out (hd 11 (by kernel_rfl))
            simp only [fr, List.foldl_cons, List.foldl_nil, Act.put, List.setIfInBounds_toArray, List.set_cons_zero, List.set_cons_succ]
            have d7 := hd 11 (by kernel_rfl)
            have e14 : L 14 = false := by rcases h : L 14 with _ | _ <;> first | rfl | exact absurd (hY.1 h).2 (by simp [h0])
            have V7 := h7.out d7 h0
            refine step_appA _ 52 rfl (by rfl) (.tmp 41) (.tmp 51) slU64b rfl rfl (hOwn.out h0) rfl (rd_vr V7 (m := 1) (sz := 1) rfl) (by intro u hu; simp at hu; subst hu; rfl) (j + 1) rfl (by unfold maxLen; omega) (by omega) (by have := hO2.size; omega) ?_
            intro A3 c3 w4 g1 g2 g3 g4 g5
            simp only [Act.put, List.setIfInBounds_toArray, List.set_cons_zero, List.set_cons_succ]
            exact hK _ _ ⟨v40, (Value.slice A1 j c1), v45, v48, v49, v50, (Value.slice (some ⟨b7, 0, none⟩) 1 1), (Value.slice (A3) (j + 1) (c3)), v53, b7, A3, c3, (by simp only [fr, List.foldl_cons, List.foldl_nil, Act.put, List.setIfInBounds_toArray, List.set_cons_zero, List.set_cons_succ]), ⟨fun h => ⟨(hY.1 h).1, rfl⟩, fun _ => d7⟩, hO2.grown g4 (fun x e => .inl (.inr e)), Lib.hid ⟨fun h => (hP.out.1 h).grown g4 (fun e => hrow e.symm), no_yet e14⟩, Lib.hid (fun h => by cases h), Lib.hid (fun _ h => by cases h), Lib.hid (fun _ => ⟨by rw [List.map_append]; exact g3, g1, g2, fun x e => by rcases g5 with h | h <;> rw [h] at e; exact .inl e; exact .inr (by injection e with e; have := hO2.size; omega)⟩), f0, f1, f5, f8, f9, f10, f11, Lib.hid (fun _ => rfl), f13⟩
          · rintro L aa w h0 hd ⟨v40, v41, v45, v48, v49, v50, v51, v52, v53, b7, A2, c2, rfl, hY, hO2, hP, hOwn, h7, hA, f0, f1, f5, f8, f9, f10, f11, f12, f13⟩ K hK
            simp only [fr, List.foldl_cons, List.foldl_nil, Act.put, List.setIfInBounds_toArray, List.set_cons_zero, List.set_cons_succ]
            go_simp
            exact hK _ _ ⟨v40, v41, v45, v48, v49, v50, v51, v52, (Value.pointer (some ⟨bo, 2, none⟩)), b7, A2, c2, (by simp only [fr, List.foldl_cons, List.foldl_nil, Act.put, List.setIfInBounds_toArray, List.set_cons_zero, List.set_cons_succ]), hY, hO2, hP, hOwn, h7, hA, f0, f1, f5, f8, f9, f10, f11, f12, Lib.hid (fun _ => rfl)⟩
          · rintro L aa w h0 hd ⟨v40, v41, v45, v48, v49, v50, v51, v52, v53, b7, A2, c2, rfl, hY, hO2, hP, hOwn, h7, hA, f0, f1, f5, f8, f9, f10, f11, f12, f13⟩ K hK
            obtain rfl := f12.out (hd 12 (by kernel_rfl))
            obtain rfl := f13.out (hd 13 (by kernel_rfl))
            simp only [fr, List.foldl_cons, List.foldl_nil, Act.put, List.setIfInBounds_toArray, List.set_cons_zero, List.set_cons_succ]
            have d0 := hd 1 (by kernel_rfl)
            have d8 := hd 12 (by kernel_rfl)
            have v0 := hP.out.1 h0
            have HV0 := Lib.hid v0
            have y0 : w.cell? ⟨bo, 2, none⟩ = some (.slice A1 j c1) := v0.cell 2
            have y1 := v0.frozen 2
            clear v0
            go_simp
            exact hK _ _ ⟨v40, v41, v45, v48, v49, v50, v51, (Value.slice A2 (j + 1) c2), (Value.pointer (some ⟨bo, 2, none⟩)), b7, A2, c2, (by simp only [fr, List.foldl_cons, List.foldl_nil, Act.put, List.setIfInBounds_toArray, List.set_cons_zero, List.set_cons_succ]), ⟨fun _ => ⟨d0, d8⟩, hY.2⟩, hO2.setCell (.inl (.inl rfl)) _, Lib.hid ⟨(fun h => by cases h), fun _ => by have := HV0.out.set 2 (.slice A2 (j + 1) c2); simpa using this⟩, Lib.hid (fun h => absurd d8 (by simp [show L 12 = false from h])), Lib.hid (fun _ h => absurd d8 (by simp [show L 12 = false from h])), Lib.hid (fun _ => by obtain ⟨q1, q2, q3, q4⟩ := hA.out d8; exact ⟨own_only q1 (o_set (Only.refl _ _) 2 _) (fun x e h => by rcases q4 x e with q | q; exact hrow (by rw [← h]; exact q); omega), q2, q3, q4⟩), f0, f1, f5, f8, f9, f10, f11, f12, f13⟩
        case a43D =>
          rintro L aa w hL ⟨v40, v41, v45, v48, v49, v50, v51, v52, v53, b7, A2, c2, rfl, hY, hO2, hP, hOwn, h7, hA, f0, f1, f5, f8, f9, f10, f11, f12, f13⟩
          obtain rfl := f0.out (hL 0 (by decide))
          obtain rfl := f1.out (hL 1 (by decide))
          obtain rfl := f5.out (hL 5 (by decide))
          obtain rfl := f8.out (hL 8 (by decide))
          obtain rfl := f9.out (hL 9 (by decide))
          obtain rfl := f10.out (hL 10 (by decide))
          obtain rfl := f11.out (hL 11 (by decide))
          obtain rfl := f12.out (hL 12 (by decide))
          obtain rfl := f13.out (hL 13 (by decide))
          have l14 := hL 14 (by decide)
          simp only [fr, List.foldl_cons, List.foldl_nil, Act.put, List.setIfInBounds_toArray, List.set_cons_zero, List.set_cons_succ]
          obtain ⟨q1, q2, q3, q4⟩ := hA.out (hL 12 (by decide))
          have hlp : (prfV cs i (List.range (j + 1))).length = j + 1 := by rw [prfV_len, List.length_range]
          have HL2 := Lib.hid (Lib.hid (show HoldL w B bo (fun x => X.heap.size ≤ x) i v (prfV cs i (List.range (j + 1))) from ⟨A2, c2, fun x e => by rw [hlp] at e; rcases q4 x e with h | h; exact HRR.out x h; exact Nat.le_trans HXZ.out h, by rw [hlp]; exact hP.out.2 l14, by rw [hlp, HPH.out]; exact q1, by rw [hlp]; exact q2, q3⟩))
          have HO3 := Lib.hid (Lib.hid (HOX.out.step hO2 (fun x hx h => by rcases h with h | h; exact h; have := HRR.out x h; omega)))
          clear hA hP hOwn h7 hY hO2 q1 q2 q3 q4 hlp
          go_wp2
          go_roundw
          case rel => exact ⟨j + 1, 2 * S, Lib.hid (by rw [Nat.pow_succ, HS.out]; omega), by omega, by omega, h2S, by go_num, HL2.out, HO3.out⟩
          case measure => simp [intOf]; omega
      · obtain ⟨F, hF⟩ : ∃ F, P = F + S := ⟨P - S, by
          have : S ≤ P := by
            rw [← hP0]
            exact Nat.le_mul_of_pos_left S (by omega)
          omega⟩
        have e2 : (k : Int) * (S : Int) = (F : Int) + (S : Int) := by rw [← Int.natCast_mul, hP0, hF, Int.natCast_add]
        have q1 : ((k : Int) % 2 == 0) = false := by simp; omega
        have HPP := Lib.hid (show nV cs j (k - 1) = p from by rw [← hp0]; unfold sib; rw [if_neg hev])
        have HN1 := Lib.hid (show F = (k - 1) * 2 ^ j from by rw [HS.out, Nat.sub_mul, hP0, hF, Nat.one_mul]; omega)
        have HN2 := Lib.hid (show F + S = F + 2 ^ j from by rw [HS.out])
        have hE : F + S ≤ 1000000 := by omega
        clear hR hV hown hp0 hxs hk hP0 hev HHL
        go_wp2_with fail
        refine (size_any n M _ (by omega) (by rw [HQ.out, HM.out])).mono ?_
        rintro e w_ ⟨rfl, rfl⟩
        go_wp2
        clear e1 e2 q1
        have E59 := Lib.hid (show IntKind.i64.wrap (F : Int) = (F : Int) from IntWalk.i64_in _ (by omega))
        refine wp_region_any (by kernel_rfl) ?_
        change wpAny _ _ _ _ _ _ _ (World.drew _)
        refine take_at (i := 2) (some 56) (v := ?vg50) rfl rfl (by kernel_rfl) (by kernel_rfl) (by kernel_rfl) (fun _ _ _ h => h) (Or.inl ⟨by rfl, ?hg50⟩) ?rg50
        case hg50 => (intro w0; go_simp; try with_reducible rfl)
        simp only [Act.put, List.setIfInBounds_toArray, List.set_cons_zero, List.set_cons_succ]
        refine take_at (i := 3) (some 57) (v := ?vg51) rfl rfl (by kernel_rfl) (by kernel_rfl) (by kernel_rfl) (fun _ _ _ h => h) (Or.inl ⟨by rfl, ?hg51⟩) ?rg51
        case hg51 => (intro w0; go_simp; try with_reducible rfl)
        simp only [Act.put, List.setIfInBounds_toArray, List.set_cons_zero, List.set_cons_succ]
        refine take_at (i := 4) (some 58) (v := ?vg52) rfl rfl (by kernel_rfl) (by kernel_rfl) (by kernel_rfl) (fun _ _ _ h => h) (Or.inl ⟨by rfl, ?hg52⟩) ?rg52
        case hg52 => (intro w0; go_simp; try with_reducible rfl)
        simp only [Act.put, List.setIfInBounds_toArray, List.set_cons_zero, List.set_cons_succ]
        refine take_at (i := 6) (some 60) (v := ?vg53) rfl rfl (by kernel_rfl) (by kernel_rfl) (by kernel_rfl) (fun _ _ _ h => h) (Or.inl ⟨by rfl, ?hg53⟩) ?rg53
        case hg53 => (intro w0; go_simp; try with_reducible rfl)
        simp only [Act.put, List.setIfInBounds_toArray, List.set_cons_zero, List.set_cons_succ]
        refine wpAny_go (fun A0 L aa w => ∃ (v54 v55 v59 v61 v62 v63 v64 : Value) (b7 : Nat) (A2 : Option Addr) (c2 : Nat), aa = fr A0 [(54, v54), (55, v55), (59, v59), (61, v61), (62, v62), (63, v63), (64, v64)] ∧ ((L 11 = true → L 1 = true ∧ L 9 = true) ∧ (L 9 = true → L 8 = true)) ∧ (Only (fun x => x = bo ∨ (Value.slice A1 j c1).ownBlock = some x) Z w) ∧ (Hid ((L 11 = false → Vr w bo 25 #[.int .i64 i, .int .i64 v, .slice A1 j c1]) ∧ (L 11 = true → Vr w bo 25 #[.int .i64 i, .int .i64 v, .slice A2 (j + 1) c2]))) ∧ (Hid (L 9 = false → w.ownsRow B 22 1 (.slice A1 j c1) j (xs.map (Value.int .u64)))) ∧ (Hid (L 8 = true → L 9 = false → Vr w b7 22 #[.int .u64 p])) ∧ (Hid (L 9 = true → w.ownsRow B 22 1 (.slice A2 (j + 1) c2) (j + 1) ((xs ++ [p]).map (Value.int .u64)) ∧ j + 1 ≤ c2 ∧ c2 ≤ maxLen ∧ ∀ x, (Value.slice A2 (j + 1) c2).ownBlock = some x → (Value.slice A1 j c1).ownBlock = some x ∨ Z.heap.size ≤ x)) ∧ Hid (L 0 = true → v54 = Value.pointer (some ⟨bo, 2, none⟩)) ∧ Hid (L 1 = true → v55 = Value.slice A1 j c1) ∧ Hid (L 5 = true → v59 = Value.int .i64 (F : Int)) ∧ Hid (L 7 = true → v61 = Value.int .u64 p) ∧ Hid (L 8 = true → v62 = Value.slice (some ⟨b7, 0, none⟩) 1 1) ∧ Hid (L 9 = true → v63 = Value.slice A2 (j + 1) c2) ∧ Hid (L 10 = true → v64 = Value.pointer (some ⟨bo, 2, none⟩))) [0, 1, 5, 7, 8, 9, 10, 11] (by kernel_rfl) (by kernel_rfl) ?a49I ?a49S ?a49D
        case a49I =>
          refine ⟨?a49v54, ?a49v55, ?a49v59, ?a49v61, ?a49v62, ?a49v63, ?a49v64, 0, none, 0, ?a49fr, ⟨no_yet (by kernel_rfl), no_yet (by kernel_rfl)⟩, (Only.refl _ _).drew, Lib.hid ⟨fun _ => HVZ.out.drew, no_yet (by kernel_rfl)⟩, Lib.hid (fun _ => own_drew HOZ.out), Lib.hid (no_yet (by kernel_rfl)), Lib.hid (no_yet (by kernel_rfl)), Lib.hid (no_yet (by kernel_rfl)), Lib.hid (no_yet (by kernel_rfl)), Lib.hid (no_yet (by kernel_rfl)), Lib.hid (no_yet (by kernel_rfl)), Lib.hid (no_yet (by kernel_rfl)), Lib.hid (no_yet (by kernel_rfl)), Lib.hid (no_yet (by kernel_rfl))⟩
          case a49fr => (simp only [fr, List.foldl_cons, List.foldl_nil, Act.put, List.setIfInBounds_toArray, List.set_cons_zero, List.set_cons_succ]; rfl)
        case a49S =>
          refine Steps.go (i := 0) (o := _) rfl ?a49s0 (Steps.go (i := 1) (o := _) rfl ?a49s1 (Steps.go (i := 5) (o := _) rfl ?a49s5 (Steps.go (i := 7) (o := _) rfl ?a49s7 (Steps.go (i := 8) (o := _) rfl ?a49s8 (Steps.go (i := 9) (o := _) rfl ?a49s9 (Steps.go (i := 10) (o := _) rfl ?a49s10 (Steps.go (i := 11) (o := _) rfl ?a49s11 Steps.nil)))))))
          · rintro L aa w h0 hd ⟨v54, v55, v59, v61, v62, v63, v64, b7, A2, c2, rfl, hY, hO2, hP, hOwn, h7, hA, f0, f1, f5, f7, f8, f9, f10⟩ K hK
            simp only [fr, List.foldl_cons, List.foldl_nil, Act.put, List.setIfInBounds_toArray, List.set_cons_zero, List.set_cons_succ]
            go_simp
            exact hK _ _ ⟨(Value.pointer (some ⟨bo, 2, none⟩)), v55, v59, v61, v62, v63, v64, b7, A2, c2, (by simp only [fr, List.foldl_cons, List.foldl_nil, Act.put, List.setIfInBounds_toArray, List.set_cons_zero, List.set_cons_succ]), hY, hO2, hP, hOwn, h7, hA, Lib.hid (fun _ => rfl), f1, f5, f7, f8, f9, f10⟩
          · rintro L aa w h0 hd ⟨v54, v55, v59, v61, v62, v63, v64, b7, A2, c2, rfl, hY, hO2, hP, hOwn, h7, hA, f0, f1, f5, f7, f8, f9, f10⟩ K hK
            obtain rfl := f0.out (hd 0 (by kernel_rfl))
            simp only [fr, List.foldl_cons, List.foldl_nil, Act.put, List.setIfInBounds_toArray, List.set_cons_zero, List.set_cons_succ]
            have e11 : L 11 = false := by rcases h : L 11 with _ | _ <;> first | rfl | exact absurd (hY.1 h).1 (by simp [h0])
            have y0 : w.cell? ⟨bo, 2, none⟩ = some (.slice A1 j c1) := (hP.out.1 e11).cell 2
            go_simp
            exact hK _ _ ⟨(Value.pointer (some ⟨bo, 2, none⟩)), (Value.slice A1 j c1), v59, v61, v62, v63, v64, b7, A2, c2, (by simp only [fr, List.foldl_cons, List.foldl_nil, Act.put, List.setIfInBounds_toArray, List.set_cons_zero, List.set_cons_succ]), ⟨fun h => ⟨rfl, (hY.1 h).2⟩, hY.2⟩, hO2, hP, hOwn, h7, hA, f0, Lib.hid (fun _ => rfl), f5, f7, f8, f9, f10⟩
          · rintro L aa w h0 hd ⟨v54, v55, v59, v61, v62, v63, v64, b7, A2, c2, rfl, hY, hO2, hP, hOwn, h7, hA, f0, f1, f5, f7, f8, f9, f10⟩ K hK
            simp only [fr, List.foldl_cons, List.foldl_nil, Act.put, List.setIfInBounds_toArray, List.set_cons_zero, List.set_cons_succ]
            have x := E59.out
            go_simp
            exact hK _ _ ⟨v54, v55, (Value.int .i64 (F : Int)), v61, v62, v63, v64, b7, A2, c2, (by simp only [fr, List.foldl_cons, List.foldl_nil, Act.put, List.setIfInBounds_toArray, List.set_cons_zero, List.set_cons_succ]), hY, hO2, hP, hOwn, h7, hA, f0, f1, Lib.hid (fun _ => rfl), f7, f8, f9, f10⟩
          · rintro L aa w h0 hd ⟨v54, v55, v59, v61, v62, v63, v64, b7, A2, c2, rfl, hY, hO2, hP, hOwn, h7, hA, f0, f1, f5, f7, f8, f9, f10⟩ K hK
            obtain rfl := f5.out (hd 5 (by kernel_rfl))
            simp only [fr, List.foldl_cons, List.foldl_nil, Act.put, List.setIfInBounds_toArray, List.set_cons_zero, List.set_cons_succ]
            go_simp
            refine (rnode_any _ n c cs hn j (k - 1) F (F + S) _ ((RDZ0.out.keep (below_only hO2)).more (by have := hO2.size; omega)) HN1.out HN2.out hE).mono ?_
            rintro e w3 ⟨rfl, hb3⟩
            rw [HPP.out]
            exact hK _ _ ⟨v54, v55, (Value.int .i64 (F : Int)), (Value.int .u64 p), v62, v63, v64, b7, A2, c2, (by simp only [fr, List.foldl_cons, List.foldl_nil, Act.put, List.setIfInBounds_toArray, List.set_cons_zero, List.set_cons_succ]), hY, of_below hO2 hb3, Lib.hid ⟨fun h => (hP.out.1 h).call hb3, fun h => (hP.out.2 h).call hb3⟩, Lib.hid (fun h => own_below (hOwn.out h) hb3), Lib.hid (fun h h8 => (h7.out h h8).call hb3), Lib.hid (fun h => ⟨own_below (hA.out h).1 hb3, (hA.out h).2⟩), f0, f1, f5, Lib.hid (fun _ => rfl), f8, f9, f10⟩
          · rintro L aa w h0 hd ⟨v54, v55, v59, v61, v62, v63, v64, b7, A2, c2, rfl, hY, hO2, hP, hOwn, h7, hA, f0, f1, f5, f7, f8, f9, f10⟩ K hK
            obtain rfl := f7.out (hd 7 (by kernel_rfl))
            simp only [fr, List.foldl_cons, List.foldl_nil, Act.put, List.setIfInBounds_toArray, List.set_cons_zero, List.set_cons_succ]
            have e9 : L 9 = false := by rcases h : L 9 with _ | _ <;> first | rfl | exact absurd (hY.2 h) (by simp [h0])
            go_simp
            exact hK _ _ ⟨v54, v55, v59, (Value.int .u64 p), (Value.slice (some ⟨(w.heap.size), 0, none⟩) 1 1), v63, v64, w.heap.size, A2, c2, (by simp only [fr, List.foldl_cons, List.foldl_nil, Act.put, List.setIfInBounds_toArray, List.set_cons_zero, List.set_cons_succ]), ⟨hY.1, fun _ => rfl⟩, hO2.alloc _, Lib.hid ⟨fun h => (hP.out.1 h).alloc _, fun h => (hP.out.2 h).alloc _⟩, Lib.hid (fun h => (hOwn.out h).alloc _), Lib.hid (fun _ _ => Vr.new w _ _), Lib.hid (no_yet e9), f0, f1, f5, f7, Lib.hid (fun _ => rfl), f9, f10⟩
          · rintro L aa w h0 hd ⟨v54, v55, v59, v61, v62, v63, v64, b7, A2, c2, rfl, hY, hO2, hP, hOwn, h7, hA, f0, f1, f5, f7, f8, f9, f10⟩ K hK
            obtain rfl := f1.out (hd 1 (by kernel_rfl))
            obtain rfl := f8.out (hd 8 (by kernel_rfl))
            simp only [fr, List.foldl_cons, List.foldl_nil, Act.put, List.setIfInBounds_toArray, List.set_cons_zero, List.set_cons_succ]
            have d7 := hd 8 (by kernel_rfl)
            have e11 : L 11 = false := by rcases h : L 11 with _ | _ <;> first | rfl | exact absurd (hY.1 h).2 (by simp [h0])
            have V7 := h7.out d7 h0
            refine step_appA _ 63 rfl (by rfl) (.tmp 55) (.tmp 62) slU64b rfl rfl (hOwn.out h0) rfl (rd_vr V7 (m := 1) (sz := 1) rfl) (by intro u hu; simp at hu; subst hu; rfl) (j + 1) rfl (by unfold maxLen; omega) (by omega) (by have := hO2.size; omega) ?_
            intro A3 c3 w4 g1 g2 g3 g4 g5
            simp only [Act.put, List.setIfInBounds_toArray, List.set_cons_zero, List.set_cons_succ]
            exact hK _ _ ⟨v54, (Value.slice A1 j c1), v59, v61, (Value.slice (some ⟨b7, 0, none⟩) 1 1), (Value.slice (A3) (j + 1) (c3)), v64, b7, A3, c3, (by simp only [fr, List.foldl_cons, List.foldl_nil, Act.put, List.setIfInBounds_toArray, List.set_cons_zero, List.set_cons_succ]), ⟨fun h => ⟨(hY.1 h).1, rfl⟩, fun _ => d7⟩, hO2.grown g4 (fun x e => .inl (.inr e)), Lib.hid ⟨fun h => (hP.out.1 h).grown g4 (fun e => hrow e.symm), no_yet e11⟩, Lib.hid (fun h => by cases h), Lib.hid (fun _ h => by cases h), Lib.hid (fun _ => ⟨by rw [List.map_append]; exact g3, g1, g2, fun x e => by rcases g5 with h | h <;> rw [h] at e; exact .inl e; exact .inr (by injection e with e; have := hO2.size; omega)⟩), f0, f1, f5, f7, f8, Lib.hid (fun _ => rfl), f10⟩
          · rintro L aa w h0 hd ⟨v54, v55, v59, v61, v62, v63, v64, b7, A2, c2, rfl, hY, hO2, hP, hOwn, h7, hA, f0, f1, f5, f7, f8, f9, f10⟩ K hK
            simp only [fr, List.foldl_cons, List.foldl_nil, Act.put, List.setIfInBounds_toArray, List.set_cons_zero, List.set_cons_succ]
            go_simp
            exact hK _ _ ⟨v54, v55, v59, v61, v62, v63, (Value.pointer (some ⟨bo, 2, none⟩)), b7, A2, c2, (by simp only [fr, List.foldl_cons, List.foldl_nil, Act.put, List.setIfInBounds_toArray, List.set_cons_zero, List.set_cons_succ]), hY, hO2, hP, hOwn, h7, hA, f0, f1, f5, f7, f8, f9, Lib.hid (fun _ => rfl)⟩
          · rintro L aa w h0 hd ⟨v54, v55, v59, v61, v62, v63, v64, b7, A2, c2, rfl, hY, hO2, hP, hOwn, h7, hA, f0, f1, f5, f7, f8, f9, f10⟩ K hK
            obtain rfl := f9.out (hd 9 (by kernel_rfl))
            obtain rfl := f10.out (hd 10 (by kernel_rfl))
            simp only [fr, List.foldl_cons, List.foldl_nil, Act.put, List.setIfInBounds_toArray, List.set_cons_zero, List.set_cons_succ]
            have d0 := hd 1 (by kernel_rfl)
            have d8 := hd 9 (by kernel_rfl)
            have v0 := hP.out.1 h0
            have HV0 := Lib.hid v0
            have y0 : w.cell? ⟨bo, 2, none⟩ = some (.slice A1 j c1) := v0.cell 2
            have y1 := v0.frozen 2
            clear v0
            go_simp
            exact hK _ _ ⟨v54, v55, v59, v61, v62, (Value.slice A2 (j + 1) c2), (Value.pointer (some ⟨bo, 2, none⟩)), b7, A2, c2, (by simp only [fr, List.foldl_cons, List.foldl_nil, Act.put, List.setIfInBounds_toArray, List.set_cons_zero, List.set_cons_succ]), ⟨fun _ => ⟨d0, d8⟩, hY.2⟩, hO2.setCell (.inl (.inl rfl)) _, Lib.hid ⟨(fun h => by cases h), fun _ => by have := HV0.out.set 2 (.slice A2 (j + 1) c2); simpa using this⟩, Lib.hid (fun h => absurd d8 (by simp [show L 9 = false from h])), Lib.hid (fun _ h => absurd d8 (by simp [show L 9 = false from h])), Lib.hid (fun _ => by obtain ⟨q1, q2, q3, q4⟩ := hA.out d8; exact ⟨own_only q1 (o_set (Only.refl _ _) 2 _) (fun x e h => by rcases q4 x e with q | q; exact hrow (by rw [← h]; exact q); omega), q2, q3, q4⟩), f0, f1, f5, f7, f8, f9, f10⟩
        case a49D =>
          rintro L aa w hL ⟨v54, v55, v59, v61, v62, v63, v64, b7, A2, c2, rfl, hY, hO2, hP, hOwn, h7, hA, f0, f1, f5, f7, f8, f9, f10⟩
          obtain rfl := f0.out (hL 0 (by decide))
          obtain rfl := f1.out (hL 1 (by decide))
          obtain rfl := f5.out (hL 5 (by decide))
          obtain rfl := f7.out (hL 7 (by decide))
          obtain rfl := f8.out (hL 8 (by decide))
          obtain rfl := f9.out (hL 9 (by decide))
          obtain rfl := f10.out (hL 10 (by decide))
          have l11 := hL 11 (by decide)
          simp only [fr, List.foldl_cons, List.foldl_nil, Act.put, List.setIfInBounds_toArray, List.set_cons_zero, List.set_cons_succ]
          obtain ⟨q1, q2, q3, q4⟩ := hA.out (hL 9 (by decide))
          have hlp : (prfV cs i (List.range (j + 1))).length = j + 1 := by rw [prfV_len, List.length_range]
          have HL2 := Lib.hid (Lib.hid (show HoldL w B bo (fun x => X.heap.size ≤ x) i v (prfV cs i (List.range (j + 1))) from ⟨A2, c2, fun x e => by rw [hlp] at e; rcases q4 x e with h | h; exact HRR.out x h; exact Nat.le_trans HXZ.out h, by rw [hlp]; exact hP.out.2 l11, by rw [hlp, HPH.out]; exact q1, by rw [hlp]; exact q2, q3⟩))
          have HO3 := Lib.hid (Lib.hid (HOX.out.step hO2 (fun x hx h => by rcases h with h | h; exact h; have := HRR.out x h; omega)))
          clear hA hP hOwn h7 hY hO2 q1 q2 q3 q4 hlp
          go_wp2
          go_roundw
          case rel => exact ⟨j + 1, 2 * S, Lib.hid (by rw [Nat.pow_succ, HS.out]; omega), by omega, by omega, h2S, by go_num, HL2.out, HO3.out⟩
          case measure => simp [intOf]; omega
    · obtain rfl : S = M := by omega
      have dM : decide ((S : Int) < (S : Int)) = false := by simp
      obtain ⟨A1, c1, hR, hV, hown, hc1, hc2⟩ := HHL.out
      have hjq : j = q := by
        rcases Nat.lt_or_ge j q with h | h
        · have h3 := Nat.pow_lt_pow_right (a := 2) (by omega) h
          rw [HS.out, HM.out] at h3
          omega
        · omega
      rw [hjq] at hR hV hown hc1
      obtain ⟨xs, hxs⟩ : ∃ xs, prfV cs i (List.range q) = xs := ⟨_, rfl⟩
      rw [hxs] at hR hV hown hc1
      have HXS := Lib.hid hxs
      have V2 := HVR.out.only HOX.out (by omega)
      obtain ⟨v1, v2, v3⟩ := hV.facts
      obtain ⟨u1, u2, u3⟩ := V2.facts
      have HV2 := Lib.hid V2
      have hsz := HOX.out.size
      have hbb : ¬ B = bo := by omega
      have HOW := Lib.hid hown
      have hRR := Lib.hid (show ∀ x, (Value.slice A1 xs.length c1).ownBlock = some x → B < x from fun x e => by have := hR x e; omega)
      clear hjq hxs hV V2 hR hown HHL
      go_wp2_with fail
      refine (size_any n S _ (by omega) (by rw [HQ.out, HM.out])).mono ?_
      rintro e w_ ⟨rfl, rfl⟩
      go_wp2
      refine name_post ?_
      intro Y hY
      have VY := vr_set3 HV2.out (.int .i64 i) (.int .i64 v) (.slice A1 xs.length c1)
      have OY : Only (· = B) Z Y := by rw [hY]; exact o_set (o_set (o_set (Only.refl _ _) _ _) _ _) _ _
      rw [← hY] at VY
      obtain ⟨y1, y2, y3⟩ := VY.facts
      have hb := HBX.out.trans ((HOX.out.below (B := W0.heap.size) HBX.out.size (fun x e => by have := HB0.out; omega)).trans (OY.below (B := W0.heap.size) (by have := HBX.out.size; omega) (fun x e => by have := HB0.out; omega)))
      have hoY := own_only HOW.out OY (fun x e h => by have := hRR.out x e; omega)
      rw [← HB0.out] at hoY
      clear hY
      refine bodyPost_ret (v := .agg #[.int .i64 i, .int .i64 v, .slice A1 xs.length c1]) (by simp [results, Try.results13, go_sem, y2]) rfl ?_
      rw [HXS.out]
      exact ⟨A1, c1, rfl, hoY, hc1, hc2, hb⟩
theorem rprove_any (A : Option Addr) (n c : Nat) (cs : List Int) (i : Int) (w : World) (rd : Rd w w.heap.size 1 A n (cs.map (Value.int .i64))) (hn : n ≤ 1000) :
    Calls Try.prog 13 #[.slice A n c, .int .i64 i] w (RetLf w (lfOf cs i).1 (lfOf cs i).2.1 (lfOf cs i).2.2) := by
  unfold lfOf
  by_cases h : 0 ≤ i ∧ i < (cs.length : Int)
  · rw [dif_pos h]
    obtain ⟨j, rfl⟩ := Int.eq_ofNat_of_zero_le h.1
    exact rprove_yes A n c cs j w rd hn (by omega)
  · rw [dif_neg h]
    exact rprove_no A n c cs i w rd h
end Go.Proofs.Ytgelhcgaacnjcaa
