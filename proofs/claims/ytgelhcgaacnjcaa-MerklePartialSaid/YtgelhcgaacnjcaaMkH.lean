/-
  WHAT IS PROVED HERE: the contract of package merkle's Set. No condition but that the tree lies in memory.
-/
import Derived.Test.YtgelhcgaacnjcaaMkG
namespace Go.Proofs.Ytgelhcgaacnjcaa
set_option linter.unusedVariables false
open Go.RowKit Go.Shelf

attribute [local go_sem] Oper.semAt_some

/-! ### What Set does to the nodes -/
def setStep (q i : Nat) (s : (Nat → Int) × Int) (l : Nat) : (Nat → Int) × Int :=
  (updF s.1 (2 ^ (q - l) + i / 2 ^ l) s.2, jn (i / 2 ^ l) s.2 (updF s.1 (2 ^ (q - l) + i / 2 ^ l) s.2 (2 ^ (q - l) + sib (i / 2 ^ l))))
def setRun (q i : Nat) (s : (Nat → Int) × Int) (ls : List Nat) : (Nat → Int) × Int := ls.foldl (setStep q i) s
theorem setRun_snoc (q i : Nat) (s : (Nat → Int) × Int) (ls : List Nat) (l : Nat) : setRun q i s (ls ++ [l]) = setStep q i (setRun q i s ls) l := by simp [setRun]
theorem set_inv {cs : List Int} {q i : Nat} {v : Int} {f : Nat → Int} (hg : Good cs q f 1) (hi : i < cs.length) (hq : i < 2 ^ q) : ∀ k, k ≤ q →
    (setRun q i (f, leafI i v) (List.range k)).2 = nV (cs.set i v) k (i / 2 ^ k) ∧
    ∀ l j, l ≤ q → j < 2 ^ (q - l) → (l < k ∨ j ≠ i / 2 ^ l) → (setRun q i (f, leafI i v) (List.range k)).1 (2 ^ (q - l) + j) = nV (cs.set i v) l j
  | 0, _ => by
    refine ⟨?_, fun l j hl hj h => ?_⟩
    · show leafI i v = lfV _ _
      unfold lfV
      rw [dif_pos (by simpa using hi)]
      simp
    · rcases h with h | h
      · omega
      · rw [nV_set cs i v l j h]
        exact hg l j hl hj (by have := Nat.pow_pos (n := q - l) (show 0 < 2 by omega); omega)
  | k + 1, hk => by
    obtain ⟨h1, h2⟩ := set_inv (v := v) hg hi hq k (by omega)
    rw [List.range_succ, setRun_snoc]
    obtain ⟨S, hS⟩ : ∃ S, setRun q i (f, leafI i v) (List.range k) = S := ⟨_, rfl⟩
    rw [hS] at h1 h2 ⊢
    have hik := shift_lt hq (show k ≤ q by omega)
    have hf : ∀ l j, l ≤ q → j < 2 ^ (q - l) → (l < k + 1 ∨ j ≠ i / 2 ^ l) → updF S.1 (2 ^ (q - k) + i / 2 ^ k) S.2 (2 ^ (q - l) + j) = nV (cs.set i v) l j := by
      intro l j hl hj h
      unfold updF
      by_cases he : 2 ^ (q - l) + j = 2 ^ (q - k) + i / 2 ^ k
      · obtain ⟨rfl, rfl⟩ := place_inj hl (by omega) hj hik he
        rw [if_pos rfl, h1]
      · rw [if_neg he]
        refine h2 l j hl hj ?_
        rcases h with h | h
        · by_cases hlk : l = k
          · subst hlk
            exact .inr (fun e => he (by rw [e]))
          · exact .inl (by omega)
        · exact .inr h
    have hsib : sib (i / 2 ^ k) < 2 ^ (q - k) := by
      rw [show q - k = (q - k - 1) + 1 from by omega] at hik ⊢
      exact sib_lt hik
    refine ⟨?_, hf⟩
    show jn _ S.2 _ = _
    rw [hf k _ (by omega) hsib (.inr (sib_ne _)), h1, jn_node, half_shift]
theorem set_good {cs : List Int} {q i : Nat} {v : Int} {f : Nat → Int} (hg : Good cs q f 1) (hi : i < cs.length) (hq : i < 2 ^ q) :
    Good (cs.set i v) q (updF (setRun q i (f, leafI i v) (List.range q)).1 1 (setRun q i (f, leafI i v) (List.range q)).2) 1 := by
  obtain ⟨h1, h2⟩ := set_inv (v := v) hg hi hq q (Nat.le_refl _)
  intro l j hl hj _
  unfold updF
  by_cases he : 2 ^ (q - l) + j = 1
  · rw [if_pos he, h1]
    have hz : i / 2 ^ q = 0 := Nat.div_eq_of_lt hq
    have : 2 ^ (q - q) + 0 = 1 := by simp
    obtain ⟨rfl, rfl⟩ := place_inj hl (Nat.le_refl _) hj (by simp) (he.trans this.symm)
    rw [hz]
  · rw [if_neg he]
    refine h2 l j hl hj ?_
    rcases Nat.lt_or_ge l q with h | h
    · exact .inl h
    · have : l = q := by omega
      subst this
      simp at hj he
      omega
theorem hgt_set (cs : List Int) (i : Nat) (v : Int) : hgt (cs.set i v).length = hgt cs.length := by rw [List.length_set]

theorem name_ci {F : Fence} {n : Nat} {P : Program} {f : FuncId} {args : Array Value} {W : World} {R : Ending → World → Prop} (h : ∀ X, X = W → CallsIn F n P f args X R) : CallsIn F n P f args W R := h W rfl
set_option maxHeartbeats 1000000 in
theorem tset_no (g bc bn : Nat) (cs : List Int) (f : Nat → Int) (i v : Int) (w : World) (H : Tr w g bc bn cs f) (hi : ¬ (0 ≤ i ∧ i < (cs.length : Int))) :
    Calls Try.prog 25 #[.pointer (some ⟨g, 0, none⟩), .int .i64 i, .int .i64 v] w fun e w' => (∃ u, e = .returned u) ∧ Below w.heap.size w w' := by
  have HH := Lib.hid H
  have HD := Lib.hid (decide_eq_false hi)
  clear hi H
  go_enter Try.func25, Try.ntmps25
  go_wp2_with fail
  refine (thas_any i (HH.out.call (b_alloc (Below.refl _ _) _))).mono ?_
  rintro e w_ ⟨rfl, rfl⟩
  rw [HD.out]
  go_wp2
  refine bodyPost_ret (results_none rfl _ _ _) rfl ?_
  exact ⟨⟨_, rfl⟩, by (repeat (first | (with_reducible exact Below.refl _ _) | (with_reducible assumption) | (with_reducible refine b_drew ?_) | (with_reducible refine b_drewN ?_ _) | (with_reducible refine b_alloc ?_ _) | ((with_reducible refine b_set ?_ ?_ _); rotate_left; (focus (first | omega | (simp; done) | (simp; omega) | (simp at *; omega)))) | (with_reducible refine b_call ?_ (by with_reducible assumption))))⟩
set_option maxHeartbeats 2000000 in
set_option maxRecDepth 100000 in
theorem tset_in (g bc bn : Nat) (cs : List Int) (f : Nat → Int) (i : Nat) (v : Int) (W0 : World) (H : Tr W0 g bc bn cs f) (hi : i < cs.length) :
    CallsIn Fence.wide 3 Try.prog 25 #[.pointer (some ⟨g, 0, none⟩), .int .i64 (i : Int), .int .i64 v] W0 fun e w' => (∃ u, e = .returned u) ∧ (∃ f', Tr w' g bc bn (cs.set i v) f') ∧ Only (fun k => k = bc ∨ k = bn) W0 w' := by
  have h10 := H.h10
  obtain ⟨q, hq⟩ : ∃ q, hgt cs.length = q := ⟨_, rfl⟩
  rw [hq] at h10
  have HQ := Lib.hid hq
  have HH := Lib.hid H
  have hsm := H.sm
  have hiq : i < 2 ^ q := by have := hgt_ge cs.length; rw [hq] at this; omega
  have HIQ := Lib.hid hiq
  have HD := Lib.hid (show decide (0 ≤ (i : Int) ∧ (i : Int) < (cs.length : Int)) = true from by simp; omega)
  have V := H.V
  rw [hq] at V
  have HV := Lib.hid V
  have hg := V.lt
  have hbc := H.C.lt
  have hbn := H.N.lt
  have gc := H.gc
  have gn := H.gn
  have cn := H.cn
  clear H V hq hiq
  refine callsIn_of_wp_marks Try.func25 rfl trivial ?_ rfl
  simp only [Try.ntmps25, List.size_toArray, List.length_cons, List.length_nil, Nat.reduceAdd, Nat.reduceSub, Array.replicate_succ, Array.replicate_zero, List.push_toArray, List.append_toArray, List.nil_append, List.cons_append]
  gi_wp2_with fail
  refine ⟨trivial, (callsIn_wide.2 (thas_any (i : Int) (HH.out.call (b_alloc (Below.refl _ _) _)))).mono ?_⟩
  rintro e w_ ⟨rfl, rfl⟩
  rw [HD.out]
  have z0 : W0.cell? ⟨g, 0, none⟩ = some (.int .i64 q) := HV.out.cell 0
  have z1 : W0.cell? ⟨g, 1, none⟩ = some (.slice (some ⟨bc, 0, none⟩) cs.length cs.length) := HV.out.cell 1
  have zc : W0.cell? ⟨bc, i, none⟩ = some (.int .i64 cs[i]) := by rw [HH.out.C.cell]; exact arrI_get hi
  have zf := HH.out.C.frozen i
  have hii : (0 : Int) ≤ (i : Int) ∧ (i : Int) < (cs.length : Int) := by omega
  obtain ⟨hi0, hil⟩ := hii
  gi_wp2_with fail
  refine ⟨trivial, name_ci ?_⟩
  intro W1 hW1
  obtain ⟨bt, hbt⟩ : ∃ b, W0.heap.size = b := ⟨_, rfl⟩
  have O1 : Only (· = bc) W0 W1 := by rw [hW1]; exact o_alloc (o_set (Only.refl _ _) _ _) _
  have VT : Vr W1 bt 35 #[.pointer (some ⟨g, 0, none⟩)] := by rw [hW1, ← hbt, ← (show (W0.setCell ⟨bc, i, none⟩ (.int .i64 v)).heap.size = W0.heap.size from by simp [World.setCell])]; exact Vr.new _ _ _
  have VC : Vr W1 bc 3 (arrI (cs.set i v)) := by rw [hW1, ← arrI_set]; exact (HH.out.C.set _ _).alloc _
  have VG : Vr W1 g 69 #[.int .i64 q, .slice (some ⟨bc, 0, none⟩) cs.length cs.length, .slice (some ⟨bn, 0, none⟩) (2 * 2 ^ q) (2 * 2 ^ q)] := HV.out.only O1 gc
  have VN : Vr W1 bn 22 (arrN (2 * 2 ^ q) f) := by have := HH.out.N.only O1 (fun e => cn e.symm); rw [HQ.out] at this; exact this
  have hs1 : bt + 1 = W1.heap.size := by rw [hW1, ← hbt]; simp [World.setCell]
  have HB0 := Lib.hid hbt
  rw [hbt] at hg hbc hbn ⊢
  clear hW1 hbt z0 z1 zc zf hi0 hil
  refine (callsIn_wide.2 (leafHash_any (i : Int) v _)).mono ?_
  rintro e w2 ⟨rfl, hb2⟩
  have VT2 := Lib.hid (VT.call hb2)
  have VC2 := Lib.hid (VC.call hb2)
  have VG2 := Lib.hid (VG.call hb2)
  have VN2 := Lib.hid (VN.call hb2)
  have O2 := Lib.hid (o_below O1 hb2)
  have hs2 := hb2.size
  have t0 : w2.cell? ⟨bt, 0, none⟩ = some (.pointer (some ⟨g, 0, none⟩)) := VT2.out.cell 0
  have g0 : w2.cell? ⟨g, 0, none⟩ = some (.int .i64 q) := VG2.out.cell 0
  have l1 : bt < w2.heap.size := by omega
  have l2 : g < w2.heap.size := by omega
  clear VT VC VG VN O1 hb2
  gi_wp2_with fail
  refine ⟨trivial, (path_make Fence.wide _ trivial rfl i q _).mono ?_⟩
  rintro e w3 ⟨rfl, rfl⟩
  gi_wp2_with fail
  refine name_in ?_
  intro X hX
  obtain ⟨bh, hbh⟩ : ∃ b, w2.heap.size = b := ⟨_, rfl⟩
  have HBX : Below w2.heap.size w2 X := by rw [hX]; (repeat (first | (with_reducible exact Below.refl _ _) | (with_reducible assumption) | (with_reducible refine b_drew ?_) | (with_reducible refine b_drewN ?_ _) | (with_reducible refine b_alloc ?_ _) | ((with_reducible refine b_set ?_ ?_ _); rotate_left; (focus (first | omega | (simp; done) | (simp; omega) | (simp at *; omega)))) | (with_reducible refine b_call ?_ (by with_reducible assumption))))
  have HVT := Lib.hid (VT2.out.call HBX)
  have HVC := Lib.hid (VC2.out.call HBX)
  have HVG := Lib.hid (VG2.out.call HBX)
  have HVN := Lib.hid (VN2.out.call HBX)
  have HO2 := Lib.hid (o_below O2.out HBX)
  have VH : Vr X bh 22 #[.int .u64 (leafI i v)] := by rw [hX, ← hbh]; exact ((Vr.new w2 _ _).alloc _).alloc _
  have VI : Vr X (bh + 1) 3 #[.int .i64 i] := by rw [hX, ← hbh]; exact (vr_new2 w2 _ _ _).alloc _
  have VQ : Vr X (bh + 1 + 1) 3 #[.int .i64 q] := by rw [hX, ← hbh]; exact vr_new3 w2 _ _ _ _
  have hXs : X.heap.size = bh + 1 + 1 + 1 := by rw [hX, ← hbh]; simp
  have HXs := Lib.hid hXs
  have HVH := Lib.hid VH
  rw [hbh] at l1 l2 hs2 ⊢
  clear hX hbh VT2 VC2 VG2 VN2 O2 t0 g0 HBX HV VH
  refine wp_rf (w := X) (T := 64) (sl := 7) rfl (enters_of Try.func49 (by kernel_rfl) rfl) (path_stops Fence.wide 2 trivial rfl (by omega) (bh + 1 + 1) (bh + 1) i q (by omega) (by omega) X VQ.lt VI.lt (VQ.cell 0) (VI.cell 0)) VQ.lt VI.lt
    (fun pre W => Only (fun k => k = bh ∨ k = bn) X W ∧ Vr W bh 22 #[.int .u64 (setRun q i (f, leafI i v) (lvs pre)).2] ∧ Vr W bn 22 (arrN (2 * 2 ^ q) (setRun q i (f, leafI i v) (lvs pre)).1))
    ((ownFrom_only (Nat.le_refl _)).and ((ownFrom_vr _ _ _ (fun pre => #[.int .u64 (setRun q i (f, leafI i v) (lvs pre)).2])).and (ownFrom_vr _ _ _ (fun pre => arrN (2 * 2 ^ q) (setRun q i (f, leafI i v) (lvs pre)).1)))) ⟨Only.refl _ _, HVH.out, HVN.out⟩ (fun _ _ h => h.1.size) (fun x => #[.int .i64 (x.1 : Nat), .int .i64 ((i / 2 ^ x.1 : Nat) : Int)]) ?assign ?body ?done
  case assign =>
    intro l x W K hK
    unfold plv at hK ⊢
    gi_wp2
    exact hK
  case body =>
    rintro l pre x gb W hg ⟨hO, hVH, hVN⟩ hVg hlen
    unfold plv
    simp only [List.setIfInBounds_toArray, List.set_cons_zero, List.set_cons_succ]
    have hx : x.1 < q := x.2
    have hsz := hO.size
    have HPH := Lib.hid (setRun_snoc q i (f, leafI i v) (lvs pre) x.1)
    rw [← lvs_snoc] at HPH
    obtain ⟨⟨fa, H⟩, hS⟩ : ∃ S, setRun q i (f, leafI i v) (lvs pre) = S := ⟨_, rfl⟩
    rw [hS] at hVH hVN HPH
    obtain ⟨lv, hlv⟩ : ∃ y : Nat, x.1 = y := ⟨_, rfl⟩
    obtain ⟨k, hk⟩ : ∃ y : Nat, i / 2 ^ lv = y := ⟨_, rfl⟩
    obtain ⟨s, hs⟩ : ∃ y : Nat, sib k = y := ⟨_, rfl⟩
    obtain ⟨T, hT⟩ : ∃ y : Nat, 2 ^ (q - lv) + k = y := ⟨_, rfl⟩
    obtain ⟨T2, hT2⟩ : ∃ y : Nat, 2 ^ (q - lv) + s = y := ⟨_, rfl⟩
    have hkl : k < 2 ^ (q - lv) := by rw [← hk]; exact shift_lt HIQ.out (by omega)
    have hsl : s < 2 ^ (q - lv) := by
      rw [← hs]
      rw [show q - lv = (q - lv - 1) + 1 from by omega] at hkl ⊢
      exact sib_lt hkl
    have hk9 : k ≤ 1000000000 := by
      have := Nat.div_le_self i (2 ^ lv)
      omega
    have hpq := Nat.pow_le_pow_right (n := 2) (by omega) (show q - lv ≤ q by omega)
    have hTl : T < 2 * 2 ^ q := by omega
    have hT2l : T2 < 2 * 2 ^ q := by omega
    unfold setStep at HPH
    simp only at HPH
    rw [hlv, hk, hs, hT, hT2] at HPH
    have HFL := Lib.hid (show lv ≤ q ∧ k < 2 ^ (q - lv) ∧ s < 2 ^ (q - lv) ∧ 2 ^ (q - lv) + k = T ∧ 2 ^ (q - lv) + s = T2 ∧ T < 2 * 2 ^ q ∧ T2 < 2 * 2 ^ q from ⟨by omega, hkl, hsl, hT, hT2, hTl, hT2l⟩)
    have ngb : ¬ (gb = bh ∨ gb = bn) := by omega
    have nbt : ¬ (bt = bh ∨ bt = bn) := by omega
    have ng : ¬ (g = bh ∨ g = bn) := by omega
    have nbh : ¬ bn = bh := by omega
    obtain ⟨Z, rfl⟩ : ∃ Z : World, Z = W := ⟨_, rfl⟩
    have zg0 : Z.cell? ⟨gb, 0, none⟩ = some (.int .i64 lv) := by rw [← hlv]; exact hVg.cell 0
    have zg1 : Z.cell? ⟨gb, 1, none⟩ = some (.int .i64 k) := by rw [← hk, ← hlv]; exact hVg.cell 1
    have zt : Z.cell? ⟨bt, 0, none⟩ = some (.pointer (some ⟨g, 0, none⟩)) := only_cell hO (HVT.out.cell 0) nbt
    have HGZ := Lib.hid (HVG.out.only hO ng)
    have HHO := Lib.hid hO
    have HHH := Lib.hid hVH
    have HHN := Lib.hid hVN
    have HSB := Lib.hid hs
    rw [hlv, hk]
    clear hS hlv hk hs hT hT2 hkl hsl hpq hTl hT2l hO hVH hVN hVg
    gi_wp2
    refine region_in (by kernel_rfl) (by kernel_rfl) ?_
    refine wpAny_go (fun A0 L aa w => ∃ (v29 v30 v31 v32 v33 : Value), aa = fr A0 [(29, v29), (30, v30), (31, v31), (32, v32), (33, v33)] ∧ (Only (fun j => j = bh ∨ j = bn) Z w) ∧ (Hid (Vr w bh 22 #[.int .u64 H])) ∧ (Hid ((L 5 = false → Vr w bn 22 (arrN (2 * 2 ^ q) fa)) ∧ (L 5 = true → Vr w bn 22 (arrN (2 * 2 ^ q) (updF fa T H))))) ∧ Hid (L 0 = true → v29 = Value.pointer (some ⟨g, 0, none⟩)) ∧ Hid (L 1 = true → v30 = Value.agg #[.int .i64 lv, .int .i64 k]) ∧ Hid (L 2 = true → v31 = Value.pointer (some ⟨bn, T, none⟩)) ∧ Hid (L 3 = true → v32 = Value.int .u64 H) ∧ Hid (L 4 = true → v33 = Value.pointer (some ⟨bn, T, none⟩))) [0, 1, 2, 3, 4, 5] (by kernel_rfl) (by kernel_rfl) ?a42I ?a42S ?a42D
    case a42I =>
      refine ⟨?a42v29, ?a42v30, ?a42v31, ?a42v32, ?a42v33, ?a42fr, (Only.refl _ _).drew, Lib.hid HHH.out.drew, Lib.hid ⟨fun _ => HHN.out.drew, no_yet (by kernel_rfl)⟩, Lib.hid (no_yet (by kernel_rfl)), Lib.hid (no_yet (by kernel_rfl)), Lib.hid (no_yet (by kernel_rfl)), Lib.hid (no_yet (by kernel_rfl)), Lib.hid (no_yet (by kernel_rfl))⟩
      case a42fr => (simp only [fr, List.foldl_cons, List.foldl_nil, Act.put, List.setIfInBounds_toArray, List.set_cons_zero, List.set_cons_succ]; rfl)
    case a42S =>
      refine Steps.go (i := 0) (o := _) rfl ?a42s0 (Steps.go (i := 1) (o := _) rfl ?a42s1 (Steps.go (i := 2) (o := _) rfl ?a42s2 (Steps.go (i := 3) (o := _) rfl ?a42s3 (Steps.go (i := 4) (o := _) rfl ?a42s4 (Steps.go (i := 5) (o := _) rfl ?a42s5 Steps.nil)))))
      · rintro L aa w h0 hd ⟨v29, v30, v31, v32, v33, rfl, hO2, hH, hN, f0, f1, f2, f3, f4⟩ K hK
        simp only [fr, List.foldl_cons, List.foldl_nil, Act.put, List.setIfInBounds_toArray, List.set_cons_zero, List.set_cons_succ]
        have y0 := only_cell hO2 zt nbt
        go_simp
        exact hK _ _ ⟨(Value.pointer (some ⟨g, 0, none⟩)), v30, v31, v32, v33, (by simp only [fr, List.foldl_cons, List.foldl_nil, Act.put, List.setIfInBounds_toArray, List.set_cons_zero, List.set_cons_succ]), hO2, hH, hN, Lib.hid (fun _ => rfl), f1, f2, f3, f4⟩
      · rintro L aa w h0 hd ⟨v29, v30, v31, v32, v33, rfl, hO2, hH, hN, f0, f1, f2, f3, f4⟩ K hK
        simp only [fr, List.foldl_cons, List.foldl_nil, Act.put, List.setIfInBounds_toArray, List.set_cons_zero, List.set_cons_succ]
        have y0 := only_cell hO2 zg0 ngb
        have y1 := only_cell hO2 zg1 ngb
        go_simp
        exact hK _ _ ⟨v29, (Value.agg #[.int .i64 lv, .int .i64 k]), v31, v32, v33, (by simp only [fr, List.foldl_cons, List.foldl_nil, Act.put, List.setIfInBounds_toArray, List.set_cons_zero, List.set_cons_succ]), hO2, hH, hN, f0, Lib.hid (fun _ => rfl), f2, f3, f4⟩
      · rintro L aa w h0 hd ⟨v29, v30, v31, v32, v33, rfl, hO2, hH, hN, f0, f1, f2, f3, f4⟩ K hK
        obtain rfl := f0.out (hd 0 (by kernel_rfl))
        obtain rfl := f1.out (hd 1 (by kernel_rfl))
        simp only [fr, List.foldl_cons, List.foldl_nil, Act.put, List.setIfInBounds_toArray, List.set_cons_zero, List.set_cons_succ]
        go_simp
        refine (node_v lv k q cs.length (HGZ.out.only hO2 ng) h10 HFL.out.1 HFL.out.2.1).mono ?_
        rintro e w3 ⟨rfl, hb3⟩
        rw [HFL.out.2.2.2.1]
        exact hK _ _ ⟨(Value.pointer (some ⟨g, 0, none⟩)), (Value.agg #[.int .i64 lv, .int .i64 k]), (Value.pointer (some ⟨bn, T, none⟩)), v32, v33, (by simp only [fr, List.foldl_cons, List.foldl_nil, Act.put, List.setIfInBounds_toArray, List.set_cons_zero, List.set_cons_succ]), of_below hO2 hb3, Lib.hid (hH.out.call hb3), Lib.hid ⟨fun h => (hN.out.1 h).call hb3, fun h => (hN.out.2 h).call hb3⟩, f0, f1, Lib.hid (fun _ => rfl), f3, f4⟩
      · rintro L aa w h0 hd ⟨v29, v30, v31, v32, v33, rfl, hO2, hH, hN, f0, f1, f2, f3, f4⟩ K hK
        simp only [fr, List.foldl_cons, List.foldl_nil, Act.put, List.setIfInBounds_toArray, List.set_cons_zero, List.set_cons_succ]
        have y0 : w.cell? ⟨bh, 0, none⟩ = some (.int .u64 H) := hH.out.cell 0
        go_simp
        exact hK _ _ ⟨v29, v30, v31, (Value.int .u64 H), v33, (by simp only [fr, List.foldl_cons, List.foldl_nil, Act.put, List.setIfInBounds_toArray, List.set_cons_zero, List.set_cons_succ]), hO2, hH, hN, f0, f1, f2, Lib.hid (fun _ => rfl), f4⟩
      · rintro L aa w h0 hd ⟨v29, v30, v31, v32, v33, rfl, hO2, hH, hN, f0, f1, f2, f3, f4⟩ K hK
        obtain rfl := f2.out (hd 2 (by kernel_rfl))
        simp only [fr, List.foldl_cons, List.foldl_nil, Act.put, List.setIfInBounds_toArray, List.set_cons_zero, List.set_cons_succ]
        go_simp
        exact hK _ _ ⟨v29, v30, (Value.pointer (some ⟨bn, T, none⟩)), v32, (Value.pointer (some ⟨bn, T, none⟩)), (by simp only [fr, List.foldl_cons, List.foldl_nil, Act.put, List.setIfInBounds_toArray, List.set_cons_zero, List.set_cons_succ]), hO2, hH, hN, f0, f1, f2, f3, Lib.hid (fun _ => rfl)⟩
      · rintro L aa w h0 hd ⟨v29, v30, v31, v32, v33, rfl, hO2, hH, hN, f0, f1, f2, f3, f4⟩ K hK
        obtain rfl := f3.out (hd 3 (by kernel_rfl))
        obtain rfl := f4.out (hd 4 (by kernel_rfl))
        simp only [fr, List.foldl_cons, List.foldl_nil, Act.put, List.setIfInBounds_toArray, List.set_cons_zero, List.set_cons_succ]
        have v0 := hN.out.1 h0
        have HV0 := Lib.hid v0
        have y0 : w.cell? ⟨bn, T, none⟩ = some (.int .u64 (fa T)) := by rw [v0.cell, arrN_get fa HFL.out.2.2.2.2.2.1]
        have y1 := v0.frozen T
        clear v0
        go_simp
        exact hK _ _ ⟨v29, v30, v31, (Value.int .u64 H), (Value.pointer (some ⟨bn, T, none⟩)), (by simp only [fr, List.foldl_cons, List.foldl_nil, Act.put, List.setIfInBounds_toArray, List.set_cons_zero, List.set_cons_succ]), hO2.setCell (.inl (.inr rfl)) _, Lib.hid (hH.out.far (fun e => nbh e.symm) _), Lib.hid ⟨(fun h => by cases h), fun _ => by rw [← arrN_set]; exact HV0.out.set _ _⟩, f0, f1, f2, f3, f4⟩
    case a42D =>
      rintro L aa w hL ⟨v29, v30, v31, v32, v33, rfl, hO2, hH, hN, f0, f1, f2, f3, f4⟩
      obtain rfl := f0.out (hL 0 (by decide))
      obtain rfl := f1.out (hL 1 (by decide))
      obtain rfl := f2.out (hL 2 (by decide))
      obtain rfl := f3.out (hL 3 (by decide))
      obtain rfl := f4.out (hL 4 (by decide))
      have l5 := hL 5 (by decide)
      simp only [fr, List.foldl_cons, List.foldl_nil, Act.put, List.setIfInBounds_toArray, List.set_cons_zero, List.set_cons_succ]
      refine onlyN_mk ?_
      have n5 := Lib.hid (hN.out.2 l5)
      have h5 := hH
      have c5 := HHH
      have c6 := HHN
      have o5 := hO2
      clear hN hH hO2 hL l5
      obtain ⟨Y, rfl⟩ : ∃ Y : World, Y = w := ⟨_, rfl⟩
      have y3 := only_cell o5 zt nbt
      have y4 := only_cell o5 zg0 ngb
      have y5 := only_cell o5 zg1 ngb
      have HGY := Lib.hid (HGZ.out.only o5 ng)
      obtain ⟨p, hp⟩ : ∃ p, updF fa T H T2 = p := ⟨_, rfl⟩
      have yT : Y.cell? ⟨bn, T2, none⟩ = some (.int .u64 p) := by rw [n5.out.cell, arrN_get _ HFL.out.2.2.2.2.2.2, hp]
      rw [hp] at HPH
      clear hp zt zg0 zg1 HGZ HHH HHN
      gi_wp2
      refine region_in (by kernel_rfl) (by kernel_rfl) ?_
      refine wpAny_go (fun A0 L aa w => ∃ (v34 v35 v36 v37 v38 v39 v40 v41 v42 : Value), aa = fr A0 [(34, v34), (35, v35), (36, v36), (37, v37), (38, v38), (39, v39), (40, v40), (41, v41), (42, v42)] ∧ (L 9 = true → L 1 = true) ∧ (Only (· = bh) Y w) ∧ (Hid ((L 9 = false → Vr w bh 22 #[.int .u64 H]) ∧ (L 9 = true → Vr w bh 22 #[.int .u64 (jn k H p)]))) ∧ Hid (L 0 = true → v34 = Value.agg #[.int .i64 lv, .int .i64 k]) ∧ Hid (L 1 = true → v35 = Value.int .u64 H) ∧ Hid (L 2 = true → v36 = Value.pointer (some ⟨g, 0, none⟩)) ∧ Hid (L 3 = true → v37 = Value.agg #[.int .i64 lv, .int .i64 k]) ∧ Hid (L 4 = true → v38 = Value.agg #[.int .i64 lv, .int .i64 s]) ∧ Hid (L 5 = true → v39 = Value.pointer (some ⟨bn, T2, none⟩)) ∧ Hid (L 6 = true → v40 = Value.pointer (some ⟨bn, T2, none⟩)) ∧ Hid (L 7 = true → v41 = Value.int .u64 p) ∧ Hid (L 8 = true → v42 = Value.int .u64 (jn k H p))) [0, 1, 2, 3, 4, 5, 6, 7, 8, 9] (by kernel_rfl) (by kernel_rfl) ?a40I ?a40S ?a40D
      case a40I =>
        refine ⟨?a40v34, ?a40v35, ?a40v36, ?a40v37, ?a40v38, ?a40v39, ?a40v40, ?a40v41, ?a40v42, ?a40fr, no_yet (by kernel_rfl), (Only.refl _ _).drew, Lib.hid ⟨fun _ => h5.out.drew, no_yet (by kernel_rfl)⟩, Lib.hid (no_yet (by kernel_rfl)), Lib.hid (no_yet (by kernel_rfl)), Lib.hid (no_yet (by kernel_rfl)), Lib.hid (no_yet (by kernel_rfl)), Lib.hid (no_yet (by kernel_rfl)), Lib.hid (no_yet (by kernel_rfl)), Lib.hid (no_yet (by kernel_rfl)), Lib.hid (no_yet (by kernel_rfl)), Lib.hid (no_yet (by kernel_rfl))⟩
        case a40fr => (simp only [fr, List.foldl_cons, List.foldl_nil, Act.put, List.setIfInBounds_toArray, List.set_cons_zero, List.set_cons_succ]; rfl)
      case a40S =>
        refine Steps.go (i := 0) (o := _) rfl ?a40s0 (Steps.go (i := 1) (o := _) rfl ?a40s1 (Steps.go (i := 2) (o := _) rfl ?a40s2 (Steps.go (i := 3) (o := _) rfl ?a40s3 (Steps.go (i := 4) (o := _) rfl ?a40s4 (Steps.go (i := 5) (o := _) rfl ?a40s5 (Steps.go (i := 6) (o := _) rfl ?a40s6 (Steps.go (i := 7) (o := _) rfl ?a40s7 (Steps.go (i := 8) (o := _) rfl ?a40s8 (Steps.go (i := 9) (o := _) rfl ?a40s9 Steps.nil)))))))))
        · rintro L aa w h0 hd ⟨v34, v35, v36, v37, v38, v39, v40, v41, v42, rfl, hY, hO3, hH3, f0, f1, f2, f3, f4, f5, f6, f7, f8⟩ K hK
          simp only [fr, List.foldl_cons, List.foldl_nil, Act.put, List.setIfInBounds_toArray, List.set_cons_zero, List.set_cons_succ]
          have x0 := only_cell hO3 y4 (fun e => ngb (.inl e))
          have x1 := only_cell hO3 y5 (fun e => ngb (.inl e))
          go_simp
          exact hK _ _ ⟨(Value.agg #[.int .i64 lv, .int .i64 k]), v35, v36, v37, v38, v39, v40, v41, v42, (by simp only [fr, List.foldl_cons, List.foldl_nil, Act.put, List.setIfInBounds_toArray, List.set_cons_zero, List.set_cons_succ]), hY, hO3, hH3, Lib.hid (fun _ => rfl), f1, f2, f3, f4, f5, f6, f7, f8⟩
        · rintro L aa w h0 hd ⟨v34, v35, v36, v37, v38, v39, v40, v41, v42, rfl, hY, hO3, hH3, f0, f1, f2, f3, f4, f5, f6, f7, f8⟩ K hK
          simp only [fr, List.foldl_cons, List.foldl_nil, Act.put, List.setIfInBounds_toArray, List.set_cons_zero, List.set_cons_succ]
          have e9 : L 9 = false := by rcases h : L 9 with _ | _ <;> first | rfl | exact absurd (hY h) (by simp [h0])
          have x0 : w.cell? ⟨bh, 0, none⟩ = some (.int .u64 H) := (hH3.out.1 e9).cell 0
          go_simp
          exact hK _ _ ⟨v34, (Value.int .u64 H), v36, v37, v38, v39, v40, v41, v42, (by simp only [fr, List.foldl_cons, List.foldl_nil, Act.put, List.setIfInBounds_toArray, List.set_cons_zero, List.set_cons_succ]), fun _ => rfl, hO3, hH3, f0, Lib.hid (fun _ => rfl), f2, f3, f4, f5, f6, f7, f8⟩
        · rintro L aa w h0 hd ⟨v34, v35, v36, v37, v38, v39, v40, v41, v42, rfl, hY, hO3, hH3, f0, f1, f2, f3, f4, f5, f6, f7, f8⟩ K hK
          simp only [fr, List.foldl_cons, List.foldl_nil, Act.put, List.setIfInBounds_toArray, List.set_cons_zero, List.set_cons_succ]
          have x0 := only_cell hO3 y3 (fun e => nbt (.inl e))
          go_simp
          exact hK _ _ ⟨v34, v35, (Value.pointer (some ⟨g, 0, none⟩)), v37, v38, v39, v40, v41, v42, (by simp only [fr, List.foldl_cons, List.foldl_nil, Act.put, List.setIfInBounds_toArray, List.set_cons_zero, List.set_cons_succ]), hY, hO3, hH3, f0, f1, Lib.hid (fun _ => rfl), f3, f4, f5, f6, f7, f8⟩
        · rintro L aa w h0 hd ⟨v34, v35, v36, v37, v38, v39, v40, v41, v42, rfl, hY, hO3, hH3, f0, f1, f2, f3, f4, f5, f6, f7, f8⟩ K hK
          simp only [fr, List.foldl_cons, List.foldl_nil, Act.put, List.setIfInBounds_toArray, List.set_cons_zero, List.set_cons_succ]
          have x0 := only_cell hO3 y4 (fun e => ngb (.inl e))
          have x1 := only_cell hO3 y5 (fun e => ngb (.inl e))
          go_simp
          exact hK _ _ ⟨v34, v35, v36, (Value.agg #[.int .i64 lv, .int .i64 k]), v38, v39, v40, v41, v42, (by simp only [fr, List.foldl_cons, List.foldl_nil, Act.put, List.setIfInBounds_toArray, List.set_cons_zero, List.set_cons_succ]), hY, hO3, hH3, f0, f1, f2, Lib.hid (fun _ => rfl), f4, f5, f6, f7, f8⟩
        · rintro L aa w h0 hd ⟨v34, v35, v36, v37, v38, v39, v40, v41, v42, rfl, hY, hO3, hH3, f0, f1, f2, f3, f4, f5, f6, f7, f8⟩ K hK
          obtain rfl := f3.out (hd 3 (by kernel_rfl))
          simp only [fr, List.foldl_cons, List.foldl_nil, Act.put, List.setIfInBounds_toArray, List.set_cons_zero, List.set_cons_succ]
          go_simp
          refine (sibling_any lv k _ hk9).mono ?_
          rintro e w3 ⟨rfl, hb3⟩
          rw [HSB.out]
          exact hK _ _ ⟨v34, v35, v36, (Value.agg #[.int .i64 lv, .int .i64 k]), (Value.agg #[.int .i64 lv, .int .i64 s]), v39, v40, v41, v42, (by simp only [fr, List.foldl_cons, List.foldl_nil, Act.put, List.setIfInBounds_toArray, List.set_cons_zero, List.set_cons_succ]), hY, o_below hO3 hb3, Lib.hid ⟨fun h => (hH3.out.1 h).call hb3, fun h => (hH3.out.2 h).call hb3⟩, f0, f1, f2, f3, Lib.hid (fun _ => rfl), f5, f6, f7, f8⟩
        · rintro L aa w h0 hd ⟨v34, v35, v36, v37, v38, v39, v40, v41, v42, rfl, hY, hO3, hH3, f0, f1, f2, f3, f4, f5, f6, f7, f8⟩ K hK
          obtain rfl := f2.out (hd 2 (by kernel_rfl))
          obtain rfl := f4.out (hd 4 (by kernel_rfl))
          simp only [fr, List.foldl_cons, List.foldl_nil, Act.put, List.setIfInBounds_toArray, List.set_cons_zero, List.set_cons_succ]
          go_simp
          refine (node_v lv s q cs.length (HGY.out.only hO3 (fun e => ng (.inl e))) h10 HFL.out.1 HFL.out.2.2.1).mono ?_
          rintro e w3 ⟨rfl, hb3⟩
          rw [HFL.out.2.2.2.2.1]
          exact hK _ _ ⟨v34, v35, (Value.pointer (some ⟨g, 0, none⟩)), v37, (Value.agg #[.int .i64 lv, .int .i64 s]), (Value.pointer (some ⟨bn, T2, none⟩)), v40, v41, v42, (by simp only [fr, List.foldl_cons, List.foldl_nil, Act.put, List.setIfInBounds_toArray, List.set_cons_zero, List.set_cons_succ]), hY, o_below hO3 hb3, Lib.hid ⟨fun h => (hH3.out.1 h).call hb3, fun h => (hH3.out.2 h).call hb3⟩, f0, f1, f2, f3, f4, Lib.hid (fun _ => rfl), f6, f7, f8⟩
        · rintro L aa w h0 hd ⟨v34, v35, v36, v37, v38, v39, v40, v41, v42, rfl, hY, hO3, hH3, f0, f1, f2, f3, f4, f5, f6, f7, f8⟩ K hK
          obtain rfl := f5.out (hd 5 (by kernel_rfl))
          simp only [fr, List.foldl_cons, List.foldl_nil, Act.put, List.setIfInBounds_toArray, List.set_cons_zero, List.set_cons_succ]
          go_simp
          exact hK _ _ ⟨v34, v35, v36, v37, v38, (Value.pointer (some ⟨bn, T2, none⟩)), (Value.pointer (some ⟨bn, T2, none⟩)), v41, v42, (by simp only [fr, List.foldl_cons, List.foldl_nil, Act.put, List.setIfInBounds_toArray, List.set_cons_zero, List.set_cons_succ]), hY, hO3, hH3, f0, f1, f2, f3, f4, f5, Lib.hid (fun _ => rfl), f7, f8⟩
        · rintro L aa w h0 hd ⟨v34, v35, v36, v37, v38, v39, v40, v41, v42, rfl, hY, hO3, hH3, f0, f1, f2, f3, f4, f5, f6, f7, f8⟩ K hK
          obtain rfl := f6.out (hd 6 (by kernel_rfl))
          simp only [fr, List.foldl_cons, List.foldl_nil, Act.put, List.setIfInBounds_toArray, List.set_cons_zero, List.set_cons_succ]
          have x0 := only_cell hO3 yT nbh
          go_simp
          exact hK _ _ ⟨v34, v35, v36, v37, v38, v39, (Value.pointer (some ⟨bn, T2, none⟩)), (Value.int .u64 p), v42, (by simp only [fr, List.foldl_cons, List.foldl_nil, Act.put, List.setIfInBounds_toArray, List.set_cons_zero, List.set_cons_succ]), hY, hO3, hH3, f0, f1, f2, f3, f4, f5, f6, Lib.hid (fun _ => rfl), f8⟩
        · rintro L aa w h0 hd ⟨v34, v35, v36, v37, v38, v39, v40, v41, v42, rfl, hY, hO3, hH3, f0, f1, f2, f3, f4, f5, f6, f7, f8⟩ K hK
          obtain rfl := f0.out (hd 0 (by kernel_rfl))
          obtain rfl := f1.out (hd 1 (by kernel_rfl))
          obtain rfl := f7.out (hd 7 (by kernel_rfl))
          simp only [fr, List.foldl_cons, List.foldl_nil, Act.put, List.setIfInBounds_toArray, List.set_cons_zero, List.set_cons_succ]
          go_simp
          refine (join_any lv k H p _).mono ?_
          rintro e w3 ⟨rfl, hb3⟩
          exact hK _ _ ⟨(Value.agg #[.int .i64 lv, .int .i64 k]), (Value.int .u64 H), v36, v37, v38, v39, v40, (Value.int .u64 p), (Value.int .u64 (jn k H p)), (by simp only [fr, List.foldl_cons, List.foldl_nil, Act.put, List.setIfInBounds_toArray, List.set_cons_zero, List.set_cons_succ]), hY, o_below hO3 hb3, Lib.hid ⟨fun h => (hH3.out.1 h).call hb3, fun h => (hH3.out.2 h).call hb3⟩, f0, f1, f2, f3, f4, f5, f6, f7, Lib.hid (fun _ => rfl)⟩
        · rintro L aa w h0 hd ⟨v34, v35, v36, v37, v38, v39, v40, v41, v42, rfl, hY, hO3, hH3, f0, f1, f2, f3, f4, f5, f6, f7, f8⟩ K hK
          obtain rfl := f8.out (hd 8 (by kernel_rfl))
          simp only [fr, List.foldl_cons, List.foldl_nil, Act.put, List.setIfInBounds_toArray, List.set_cons_zero, List.set_cons_succ]
          have d1 := hd 1 (by kernel_rfl)
          have v0 := hH3.out.1 h0
          have HV0 := Lib.hid v0
          have x0 : w.cell? ⟨bh, 0, none⟩ = some (.int .u64 H) := v0.cell 0
          have x1 := v0.frozen 0
          have x2 := v0.lt
          clear v0
          go_simp
          exact hK _ _ ⟨v34, v35, v36, v37, v38, v39, v40, v41, (Value.int .u64 (jn k H p)), (by simp only [fr, List.foldl_cons, List.foldl_nil, Act.put, List.setIfInBounds_toArray, List.set_cons_zero, List.set_cons_succ]), fun _ => d1, o_set hO3 0 _, Lib.hid ⟨(fun h => by cases h), fun _ => HV0.out.set 0 _⟩, f0, f1, f2, f3, f4, f5, f6, f7, f8⟩
      case a40D =>
        rintro L aa w hL ⟨v34, v35, v36, v37, v38, v39, v40, v41, v42, rfl, hY, hO3, hH3, f0, f1, f2, f3, f4, f5, f6, f7, f8⟩
        obtain rfl := f0.out (hL 0 (by decide))
        obtain rfl := f1.out (hL 1 (by decide))
        obtain rfl := f2.out (hL 2 (by decide))
        obtain rfl := f3.out (hL 3 (by decide))
        obtain rfl := f4.out (hL 4 (by decide))
        obtain rfl := f5.out (hL 5 (by decide))
        obtain rfl := f6.out (hL 6 (by decide))
        obtain rfl := f7.out (hL 7 (by decide))
        obtain rfl := f8.out (hL 8 (by decide))
        have l9 := hL 9 (by decide)
        simp only [fr, List.foldl_cons, List.foldl_nil, Act.put, List.setIfInBounds_toArray, List.set_cons_zero, List.set_cons_succ]
        refine onlyN_mk ?_
        gi_wp2
        have o9 : Only (fun j => j = bh ∨ j = bn) Z w := o5.trans (hO3.mono (fun j _ e => .inl e))
        refine ⟨keepsFrom_cells o9 (fun j hj => ?_), Kp2.of_only o9 (by omega) (by omega) (by omega) (by omega), HHO.out.trans o9, ?_, ?_⟩
        · rcases hj with rfl | rfl
          · exact ⟨_, _, c5.out⟩
          · exact ⟨_, _, c6.out⟩
        · rw [HPH.out]
          exact hH3.out.2 l9
        · rw [HPH.out]
          exact n5.out.only hO3 nbh
  case done =>
    rintro D ys W hD hys ⟨hO, hVH, hVN⟩ hK
    rw [hys] at hVH hVN
    have hgood := Lib.hid (set_good (v := v) (by have := HH.out.G; rw [HQ.out] at this; exact this) hi HIQ.out)
    obtain ⟨⟨fa, H⟩, hS⟩ : ∃ S, setRun q i (f, leafI i v) (List.range q) = S := ⟨_, rfl⟩
    rw [hS] at hVH hVN hgood
    have nbt : ¬ (bt = bh ∨ bt = bn) := by omega
    have ng : ¬ (g = bh ∨ g = bn) := by omega
    have nbc : ¬ (bc = bh ∨ bc = bn) := by omega
    have nbh : ¬ bh = bn := by omega
    obtain ⟨Z, rfl⟩ : ∃ Z : World, Z = W := ⟨_, rfl⟩
    have zt : Z.cell? ⟨bt, 0, none⟩ = some (.pointer (some ⟨g, 0, none⟩)) := only_cell hO (HVT.out.cell 0) nbt
    have HGZ := Lib.hid (HVG.out.only hO ng)
    have zn : Z.cell? ⟨g, 2, none⟩ = some (.slice (some ⟨bn, 0, none⟩) (2 * 2 ^ q) (2 * 2 ^ q)) := HGZ.out.cell 2
    have zh : Z.cell? ⟨bh, 0, none⟩ = some (.int .u64 H) := hVH.cell 0
    have HHN := Lib.hid hVN
    have HHO := Lib.hid hO
    have HK := Lib.hid hK
    have hp := Nat.pow_pos (n := q) (show 0 < 2 by omega)
    obtain ⟨S, hS2⟩ : ∃ S, 2 ^ q = S := ⟨_, rfl⟩
    have HS2 := Lib.hid hS2
    rw [hS2] at zn hp
    have E5 := Lib.hid (show (1 : Int) < 2 * (S : Int) from by omega)
    have hDs := (Array.getElem?_eq_some_iff.1 hK).1
    clear hys hS hVH hVN hO hK hS2
    gi_wp2
    refine wpIn_wide.2 ?_
    refine wp_region_any (by kernel_rfl) ?_
    change wpAny _ _ _ _ _ _ _ (World.drew _)
    refine wpAny_go (fun A0 L aa w => ∃ (v43 v44 v45 v46 v47 v48 : Value), aa = fr A0 [(43, v43), (44, v44), (45, v45), (46, v46), (47, v47), (48, v48)] ∧ (Only (· = bn) Z w) ∧ (Hid ((L 6 = false → Vr w bn 22 (arrN (2 * 2 ^ q) fa)) ∧ (L 6 = true → Vr w bn 22 (arrN (2 * 2 ^ q) (updF fa 1 H))))) ∧ Hid (L 0 = true → v43 = Value.pointer (some ⟨g, 0, none⟩)) ∧ Hid (L 1 = true → v44 = Value.pointer (some ⟨g, 0, none⟩)) ∧ Hid (L 2 = true → v45 = Value.pointer (some ⟨g, 2, none⟩)) ∧ Hid (L 3 = true → v46 = Value.slice (some ⟨bn, 0, none⟩) (2 * S) (2 * S)) ∧ Hid (L 4 = true → v47 = Value.int .u64 H) ∧ Hid (L 5 = true → v48 = Value.pointer (some ⟨bn, 1, none⟩))) [0, 1, 2, 3, 4, 5, 6] (by kernel_rfl) (by kernel_rfl) ?a41I ?a41S ?a41D
    case a41I =>
      refine ⟨?a41v43, ?a41v44, ?a41v45, ?a41v46, ?a41v47, ?a41v48, ?a41fr, (Only.refl _ _).drew, Lib.hid ⟨fun _ => HHN.out.drew, no_yet (by kernel_rfl)⟩, Lib.hid (no_yet (by kernel_rfl)), Lib.hid (no_yet (by kernel_rfl)), Lib.hid (no_yet (by kernel_rfl)), Lib.hid (no_yet (by kernel_rfl)), Lib.hid (no_yet (by kernel_rfl)), Lib.hid (no_yet (by kernel_rfl))⟩
      case a41fr => (simp only [fr, List.foldl_cons, List.foldl_nil, Act.put, List.setIfInBounds_toArray, List.set_cons_zero, List.set_cons_succ]; rfl)
    case a41S =>
      refine Steps.go (i := 0) (o := _) rfl ?a41s0 (Steps.go (i := 1) (o := _) rfl ?a41s1 (Steps.go (i := 2) (o := _) rfl ?a41s2 (Steps.go (i := 3) (o := _) rfl ?a41s3 (Steps.go (i := 4) (o := _) rfl ?a41s4 (Steps.go (i := 5) (o := _) rfl ?a41s5 (Steps.go (i := 6) (o := _) rfl ?a41s6 Steps.nil))))))
      · rintro L aa w h0 hd ⟨v43, v44, v45, v46, v47, v48, rfl, hO2, hN, f0, f1, f2, f3, f4, f5⟩ K hK
        simp only [fr, List.foldl_cons, List.foldl_nil, Act.put, List.setIfInBounds_toArray, List.set_cons_zero, List.set_cons_succ]
        have x := only_cell hO2 zt (fun e => nbt (.inr e))
        go_simp
        exact hK _ _ ⟨(Value.pointer (some ⟨g, 0, none⟩)), v44, v45, v46, v47, v48, (by simp only [fr, List.foldl_cons, List.foldl_nil, Act.put, List.setIfInBounds_toArray, List.set_cons_zero, List.set_cons_succ]), hO2, hN, Lib.hid (fun _ => rfl), f1, f2, f3, f4, f5⟩
      · rintro L aa w h0 hd ⟨v43, v44, v45, v46, v47, v48, rfl, hO2, hN, f0, f1, f2, f3, f4, f5⟩ K hK
        obtain rfl := f0.out (hd 0 (by kernel_rfl))
        simp only [fr, List.foldl_cons, List.foldl_nil, Act.put, List.setIfInBounds_toArray, List.set_cons_zero, List.set_cons_succ]
        go_simp
        exact hK _ _ ⟨(Value.pointer (some ⟨g, 0, none⟩)), (Value.pointer (some ⟨g, 0, none⟩)), v45, v46, v47, v48, (by simp only [fr, List.foldl_cons, List.foldl_nil, Act.put, List.setIfInBounds_toArray, List.set_cons_zero, List.set_cons_succ]), hO2, hN, f0, Lib.hid (fun _ => rfl), f2, f3, f4, f5⟩
      · rintro L aa w h0 hd ⟨v43, v44, v45, v46, v47, v48, rfl, hO2, hN, f0, f1, f2, f3, f4, f5⟩ K hK
        obtain rfl := f1.out (hd 1 (by kernel_rfl))
        simp only [fr, List.foldl_cons, List.foldl_nil, Act.put, List.setIfInBounds_toArray, List.set_cons_zero, List.set_cons_succ]
        go_simp
        exact hK _ _ ⟨v43, (Value.pointer (some ⟨g, 0, none⟩)), (Value.pointer (some ⟨g, 2, none⟩)), v46, v47, v48, (by simp only [fr, List.foldl_cons, List.foldl_nil, Act.put, List.setIfInBounds_toArray, List.set_cons_zero, List.set_cons_succ]), hO2, hN, f0, f1, Lib.hid (fun _ => rfl), f3, f4, f5⟩
      · rintro L aa w h0 hd ⟨v43, v44, v45, v46, v47, v48, rfl, hO2, hN, f0, f1, f2, f3, f4, f5⟩ K hK
        obtain rfl := f2.out (hd 2 (by kernel_rfl))
        simp only [fr, List.foldl_cons, List.foldl_nil, Act.put, List.setIfInBounds_toArray, List.set_cons_zero, List.set_cons_succ]
        have x := only_cell hO2 zn (fun e => ng (.inr e))
        go_simp
        exact hK _ _ ⟨v43, v44, (Value.pointer (some ⟨g, 2, none⟩)), (Value.slice (some ⟨bn, 0, none⟩) (2 * S) (2 * S)), v47, v48, (by simp only [fr, List.foldl_cons, List.foldl_nil, Act.put, List.setIfInBounds_toArray, List.set_cons_zero, List.set_cons_succ]), hO2, hN, f0, f1, f2, Lib.hid (fun _ => rfl), f4, f5⟩
      · rintro L aa w h0 hd ⟨v43, v44, v45, v46, v47, v48, rfl, hO2, hN, f0, f1, f2, f3, f4, f5⟩ K hK
        simp only [fr, List.foldl_cons, List.foldl_nil, Act.put, List.setIfInBounds_toArray, List.set_cons_zero, List.set_cons_succ]
        have x := only_cell hO2 zh nbh
        go_simp
        exact hK _ _ ⟨v43, v44, v45, v46, (Value.int .u64 H), v48, (by simp only [fr, List.foldl_cons, List.foldl_nil, Act.put, List.setIfInBounds_toArray, List.set_cons_zero, List.set_cons_succ]), hO2, hN, f0, f1, f2, f3, Lib.hid (fun _ => rfl), f5⟩
      · rintro L aa w h0 hd ⟨v43, v44, v45, v46, v47, v48, rfl, hO2, hN, f0, f1, f2, f3, f4, f5⟩ K hK
        obtain rfl := f3.out (hd 3 (by kernel_rfl))
        simp only [fr, List.foldl_cons, List.foldl_nil, Act.put, List.setIfInBounds_toArray, List.set_cons_zero, List.set_cons_succ]
        have x := E5.out
        go_simp
        exact hK _ _ ⟨v43, v44, v45, (Value.slice (some ⟨bn, 0, none⟩) (2 * S) (2 * S)), v47, (Value.pointer (some ⟨bn, 1, none⟩)), (by simp only [fr, List.foldl_cons, List.foldl_nil, Act.put, List.setIfInBounds_toArray, List.set_cons_zero, List.set_cons_succ]), hO2, hN, f0, f1, f2, f3, f4, Lib.hid (fun _ => rfl)⟩
      · rintro L aa w h0 hd ⟨v43, v44, v45, v46, v47, v48, rfl, hO2, hN, f0, f1, f2, f3, f4, f5⟩ K hK
        obtain rfl := f4.out (hd 4 (by kernel_rfl))
        obtain rfl := f5.out (hd 5 (by kernel_rfl))
        simp only [fr, List.foldl_cons, List.foldl_nil, Act.put, List.setIfInBounds_toArray, List.set_cons_zero, List.set_cons_succ]
        have v0 := hN.out.1 h0
        have HV0 := Lib.hid v0
        have y0 : w.cell? ⟨bn, 1, none⟩ = some (.int .u64 (fa 1)) := by rw [v0.cell, arrN_get fa (by rw [HS2.out]; omega)]
        have y1 := v0.frozen 1
        clear v0
        go_simp
        exact hK _ _ ⟨v43, v44, v45, v46, (Value.int .u64 H), (Value.pointer (some ⟨bn, 1, none⟩)), (by simp only [fr, List.foldl_cons, List.foldl_nil, Act.put, List.setIfInBounds_toArray, List.set_cons_zero, List.set_cons_succ]), o_set hO2 _ _, Lib.hid ⟨(fun h => by cases h), fun _ => by rw [← arrN_set]; exact HV0.out.set _ _⟩, f0, f1, f2, f3, f4, f5⟩
    case a41D =>
      rintro L aa w hL ⟨v43, v44, v45, v46, v47, v48, rfl, hO2, hN, f0, f1, f2, f3, f4, f5⟩
      obtain rfl := f0.out (hL 0 (by decide))
      obtain rfl := f1.out (hL 1 (by decide))
      obtain rfl := f2.out (hL 2 (by decide))
      obtain rfl := f3.out (hL 3 (by decide))
      obtain rfl := f4.out (hL 4 (by decide))
      obtain rfl := f5.out (hL 5 (by decide))
      have l6 := hL 6 (by decide)
      simp only [fr, List.foldl_cons, List.foldl_nil, Act.put, List.setIfInBounds_toArray, List.set_cons_zero, List.set_cons_succ]
      have vn := hN.out.2 l6
      have hDl := (Array.getElem?_eq_some_iff.1 HK.out).1
      have hK2 : w.heap[D]? = some (.deferred (some [])) := (hO2.heap hDl (by omega)).trans HK.out
      have oW : Only (fun k => k = bc ∨ k = bn) W0 w := (HO2.out.mono (fun j _ e => Or.inl e)).step (G := fun k => k = bh ∨ k = bn) (HHO.out.trans (hO2.mono (fun j _ e => .inr e))) (fun j hj h => by have h3 := HB0.out; omega)
      have vg := HGZ.out.only hO2 (fun e => ng (.inr e))
      have vc := (HVC.out.only HHO.out nbc).only hO2 cn
      gi_wp2
      refine ⟨by simp, .inl ⟨_, _, rfl, run_takeDeferred hK2, ?_⟩⟩
      refine ⟨_, results_none rfl _ _ _, ⟨_, rfl⟩, ⟨updF fa 1 H, ⟨?_, vr_putObj vc (by omega), ?_, ?_, gc, gn, cn, by rw [List.length_set]; exact hsm⟩⟩, only_putObj oW (by have h3 := HB0.out; omega) rfl⟩
      · rw [hgt_set, HQ.out, List.length_set]
        exact vr_putObj vg (by omega)
      · rw [hgt_set, HQ.out]
        exact vr_putObj vn (by omega)
      · rw [hgt_set, HQ.out]
        exact hgood.out
theorem tset_yes (g bc bn : Nat) (cs : List Int) (f : Nat → Int) (i : Nat) (v : Int) (w : World) (H : Tr w g bc bn cs f) (hi : i < cs.length) :
    Calls Try.prog 25 #[.pointer (some ⟨g, 0, none⟩), .int .i64 (i : Int), .int .i64 v] w fun e w' => (∃ u, e = .returned u) ∧ (∃ f', Tr w' g bc bn (cs.set i v) f') ∧ Only (fun k => k = bc ∨ k = bn) w w' := callsIn_wide.1 (tset_in g bc bn cs f i v w H hi)
/-- the cells after an assignment -/
def setC (cs : List Int) (i v : Int) : List Int := if 0 ≤ i ∧ i < (cs.length : Int) then cs.set i.toNat v else cs
theorem tset_any (g bc bn : Nat) (cs : List Int) (f : Nat → Int) (i v : Int) (w : World) (H : Tr w g bc bn cs f) :
    Calls Try.prog 25 #[.pointer (some ⟨g, 0, none⟩), .int .i64 i, .int .i64 v] w fun e w' => (∃ u, e = .returned u) ∧ (∃ f', Tr w' g bc bn (setC cs i v) f') ∧ Only (fun k => k = bc ∨ k = bn) w w' := by
  unfold setC
  by_cases h : 0 ≤ i ∧ i < (cs.length : Int)
  · rw [if_pos h]
    obtain ⟨j, rfl⟩ := Int.eq_ofNat_of_zero_le h.1
    exact tset_yes g bc bn cs f j v w H (by omega)
  · rw [if_neg h]
    exact (tset_no g bc bn cs f i v w H h).mono fun e w' h => ⟨h.1, ⟨f, H.call h.2⟩, Only.of_below h.2 _ (fun k h1 h2 => by omega)⟩
theorem setC_len (cs : List Int) (i v : Int) : (setC cs i v).length = cs.length := by unfold setC; split <;> simp
end Go.Proofs.Ytgelhcgaacnjcaa
