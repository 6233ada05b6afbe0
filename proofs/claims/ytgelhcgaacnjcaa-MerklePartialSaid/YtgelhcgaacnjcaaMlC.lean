/-
  WHAT IS PROVED HERE: the contract of a partial tree's Set. No condition but that the partial tree lies in memory.
-/
import Derived.Test.YtgelhcgaacnjcaaMkX
namespace Go.Proofs.Ytgelhcgaacnjcaa
set_option linter.unusedVariables false
open Go.RowKit Go.Shelf

attribute [local go_sem] Oper.semAt_some

/-- what Set does to the nodes at one level -/
noncomputable def pstStep (i : Nat) (s : (Lit → Option Int) × Int) (l : Nat) : (Lit → Option Int) × Int :=
  (putM s.1 (plL l (i / 2 ^ l : Nat)) s.2, jn (i / 2 ^ l) s.2 (((putM s.1 (plL l (i / 2 ^ l : Nat)) s.2) (plL l (sib (i / 2 ^ l) : Nat))).getD 0))
noncomputable def pstRun (i : Nat) (s : (Lit → Option Int) × Int) (ls : List Nat) : (Lit → Option Int) × Int := ls.foldl (pstStep i) s
theorem pstRun_snoc (i : Nat) (s : (Lit → Option Int) × Int) (ls : List Nat) (l : Nat) : pstRun i s (ls ++ [l]) = pstStep i (pstRun i s ls) l := by simp [pstRun]
theorem run_storeI {w : World} {bc n : Nat} {C : Lit → Option Int} (H : MI w bc n C) (hn : n < maxLen) {i v : Int} (hi : I64 i) :
    ∃ w', (Instr.mapUpdate 74 (.map (some bc)) (.int .i64 i) (.int .i64 v)).run Try.prog w = .ok () w' ∧ MI w' bc (n + 1) (putM C (kI i) v) ∧ Only (· = bc) w w' := by
  obtain ⟨w', hrun, r1, r2⟩ := MapV.store (t := 74) H keyInt Try.underlying74 hn (key_int hi) (val := .int .i64 v)
  rw [putM_put] at r1
  exact ⟨w', hrun, r1, r2⟩
set_option maxHeartbeats 1000000 in
theorem pset_no (g bc bn q N : Nat) (C M : Lit → Option Int) (i v : Int) (w : World) (H : Par w g bc bn q N C M) (hi : I64 i) (hC : (C (kI i)).isSome = false) :
    Calls Try.prog 28 #[.pointer (some ⟨g, 0, none⟩), .int .i64 i, .int .i64 v] w fun e w' => e = .returned (.bool false) ∧ Below w.heap.size w w' := by
  have hb := b_alloc (Below.refl w.heap.size w) (.cells #[.pointer (some ⟨g, 0, none⟩)] 47)
  have hr := run_lookI (H.C.call hb) hi rfl hC
  have z1 : w.cell? ⟨g, 1, none⟩ = some (.map (some bc)) := H.V.cell 1
  have hg := H.V.lt
  obtain ⟨y, hy⟩ : ∃ y, (C (kI i)).getD 0 = y := ⟨_, rfl⟩
  rw [hy] at hr
  clear hy H hC hb
  go_enter Try.func28, Try.ntmps28
  go_wp2_with fail
  go_ret
  exact ⟨rfl, by (repeat (first | (with_reducible exact Below.refl _ _) | (with_reducible assumption) | (with_reducible refine b_drew ?_) | (with_reducible refine b_drewN ?_ _) | (with_reducible refine b_alloc ?_ _) | ((with_reducible refine b_set ?_ ?_ _); rotate_left; (focus (first | omega | (simp; done) | (simp; omega) | (simp at *; omega)))) | (with_reducible refine b_call ?_ (by with_reducible assumption))))⟩
set_option maxHeartbeats 2000000 in
set_option maxRecDepth 100000 in
theorem pset_in (g bc bn q N : Nat) (C M : Lit → Option Int) (i : Nat) (v : Int) (W0 : World) (H : Par W0 g bc bn q N C M) (hC : (C (kI i)).isSome = true) (hq : q ≤ 10) (hi : i ≤ 1000000) (hN : N ≤ 100000) :
    CallsIn Fence.wide 3 Try.prog 28 #[.pointer (some ⟨g, 0, none⟩), .int .i64 (i : Int), .int .i64 v] W0 fun e w' => e = .returned (.bool true) ∧ Par w' g bc bn q (N + 2 + q) (putM C (kI i) v) (putM (pstRun i (M, leafI i v) (List.range q)).1 (plL q 0) (pstRun i (M, leafI i v) (List.range q)).2) ∧ Only (fun k => k = bc ∨ k = bn) W0 w' := by
  have HH := Lib.hid H
  have hg := H.V.lt
  have hbc := H.C.lt
  have hbn := H.N.lt
  have gc := H.gc
  have gn := H.gn
  have cn := H.cn
  have hI : I64 (i : Int) := by unfold I64; omega
  have HI := Lib.hid hI
  obtain ⟨bt, hbt⟩ : ∃ b, W0.heap.size = b := ⟨_, rfl⟩
  have hb := b_alloc (Below.refl W0.heap.size W0) (.cells #[.pointer (some ⟨g, 0, none⟩)] 47)
  have HP := H.call hb
  have hr := run_lookI HP.C hI rfl hC
  obtain ⟨y, hy⟩ : ∃ y, (C (kI i)).getD 0 = y := ⟨_, rfl⟩
  rw [hy] at hr
  obtain ⟨w1, hr1, m1, m2⟩ := run_storeI HP.C (by unfold maxLen; omega) (i := i) (v := v) hI
  have VT := (Vr.new W0 47 #[.pointer (some ⟨g, 0, none⟩)]).only m2 (by omega)
  have VG := HP.V.only m2 gc
  have VN := HP.N.only m2 (fun e => cn e.symm)
  have O1 := Lib.hid ((Only.of_below hb (fun k => k = bc ∨ k = bn) (fun k h1 h2 => by omega)).trans (m2.mono (fun k _ e => .inl e)))
  have hs1 := m2.size
  have z1 : W0.cell? ⟨g, 1, none⟩ = some (.map (some bc)) := H.V.cell 1
  have t0 : w1.cell? ⟨W0.heap.size, 0, none⟩ = some (.pointer (some ⟨g, 0, none⟩)) := VT.cell 0
  have t1 : w1.cell? ⟨g, 0, none⟩ = some (.int .i64 q) := VG.cell 0
  have HVT := Lib.hid VT
  have HVG := Lib.hid VG
  have HVN := Lib.hid VN
  have HC1 := Lib.hid m1
  simp only [World.size_alloc] at hs1
  have HB0 := Lib.hid hbt
  clear H HP hb hy hC VT VG VN m1 m2 hI
  refine callsIn_of_wp_marks Try.func28 rfl trivial ?_ rfl
  simp only [Try.ntmps28, List.size_toArray, List.length_cons, List.length_nil, Nat.reduceAdd, Nat.reduceSub, Array.replicate_succ, Array.replicate_zero, List.push_toArray, List.append_toArray, List.nil_append, List.cons_append]
  clear hbt
  gi_wp2_with fail
  refine ⟨trivial, (callsIn_wide.2 (leafHash_any (i : Int) v _)).mono ?_⟩
  rintro e w2 ⟨rfl, hb2⟩
  have HVT2 := Lib.hid (HVT.out.call hb2)
  have HVG2 := Lib.hid (HVG.out.call hb2)
  have HVN2 := Lib.hid (HVN.out.call hb2)
  have HC2 := Lib.hid (HC1.out.call hb2)
  have O2 := Lib.hid (of_below O1.out hb2)
  have hs2 := hb2.size
  have u0 : w2.cell? ⟨W0.heap.size, 0, none⟩ = some (.pointer (some ⟨g, 0, none⟩)) := HVT2.out.cell 0
  have u1 : w2.cell? ⟨g, 0, none⟩ = some (.int .i64 q) := HVG2.out.cell 0
  have l1 : W0.heap.size < w2.heap.size := by omega
  have l2 : g < w2.heap.size := by omega
  clear hr hr1 t0 t1 z1 hb2 HVT HVG HVN HC1 O1
  gi_wp2_with fail
  refine ⟨trivial, (path_make Fence.wide _ trivial rfl i q _).mono ?_⟩
  rintro e w3 ⟨rfl, rfl⟩
  gi_wp2_with fail
  refine name_in ?_
  intro X hX
  obtain ⟨bh, hbh⟩ : ∃ b, w2.heap.size = b := ⟨_, rfl⟩
  obtain ⟨bt, hbt⟩ : ∃ b, W0.heap.size = b := ⟨_, rfl⟩
  have HBX : Below w2.heap.size w2 X := by rw [hX]; (repeat (first | (with_reducible exact Below.refl _ _) | (with_reducible assumption) | (with_reducible refine b_drew ?_) | (with_reducible refine b_drewN ?_ _) | (with_reducible refine b_alloc ?_ _) | ((with_reducible refine b_set ?_ ?_ _); rotate_left; (focus (first | omega | (simp; done) | (simp; omega) | (simp at *; omega)))) | (with_reducible refine b_call ?_ (by with_reducible assumption))))
  have HVT4 := Lib.hid (HVT2.out.call HBX)
  have HVG4 := Lib.hid (HVG2.out.call HBX)
  have HVN4 := Lib.hid (HVN2.out.call HBX)
  have HC4 := Lib.hid (HC2.out.call HBX)
  have HO4 := Lib.hid (of_below O2.out HBX)
  have VH : Vr X bh 22 #[.int .u64 (leafI i v)] := by rw [hX, ← hbh]; exact ((Vr.new w2 _ _).alloc _).alloc _
  have VI : Vr X (bh + 1) 3 #[.int .i64 i] := by rw [hX, ← hbh]; exact (vr_new2 w2 _ _ _).alloc _
  have VQ : Vr X (bh + 1 + 1) 3 #[.int .i64 q] := by rw [hX, ← hbh]; exact vr_new3 w2 _ _ _ _
  have HZs := Lib.hid (show X.heap.size = bh + 1 + 1 + 1 from by rw [hX, ← hbh]; simp)
  have HVH4 := Lib.hid VH
  rw [hbh] at l1 l2 hs2 ⊢
  rw [hbt] at hg hbc hbn hs1 l1 HVT4 ⊢
  have HB0 := Lib.hid hbt
  clear hX hbh hbt HVT2 HVG2 HVN2 HC2 O2 u0 u1 HBX VH
  refine wp_rf (w := X) (T := 64) (sl := 10) rfl (enters_of Try.func49 (by kernel_rfl) rfl) (path_stops Fence.wide 2 trivial rfl (by omega) (bh + 1 + 1) (bh + 1) i q (by omega) (by omega) X VQ.lt VI.lt (VQ.cell 0) (VI.cell 0)) VQ.lt VI.lt
    (fun pre W => Only (fun k => k = bh ∨ k = bn) X W ∧ Vr W bh 22 #[.int .u64 (pstRun i (M, leafI i v) (lvs pre)).2] ∧ MU W bn (N + pre.length) (pstRun i (M, leafI i v) (lvs pre)).1)
    ((ownFrom_only (Nat.le_refl _)).and ((ownFrom_vr _ _ _ (fun pre => #[.int .u64 (pstRun i (M, leafI i v) (lvs pre)).2])).and (ownFrom_mu _ _ (by have := HZs.out; omega) (fun pre => N + pre.length) (fun pre => (pstRun i (M, leafI i v) (lvs pre)).1)))) ⟨Only.refl _ _, HVH4.out, HVN4.out⟩ (fun _ _ h => h.1.size) (fun x => #[.int .i64 (x.1 : Nat), .int .i64 ((i / 2 ^ x.1 : Nat) : Int)]) ?assign ?body ?done
  case assign =>
    intro l x W K hK
    unfold plv at hK ⊢
    gi_wp2
    exact hK
  case body =>
    rintro l pre x gb W hgb ⟨hO, hVH, hMU⟩ hVg hlen
    unfold plv
    simp only [List.setIfInBounds_toArray, List.set_cons_zero, List.set_cons_succ]
    have hx : x.1 < q := x.2
    have hsz := hO.size
    have hzs := HZs.out
    have nbt : ¬ (bt = bh ∨ bt = bn) := by omega
    have ng : ¬ (g = bh ∨ g = bn) := by omega
    have ngb : ¬ (gb = bh ∨ gb = bn) := by omega
    have nbh : ¬ bh = bn := by omega
    have HPH := Lib.hid (pstRun_snoc i (M, leafI i v) (lvs pre) x.1)
    rw [← lvs_snoc] at HPH
    obtain ⟨⟨Mx, H⟩, hS⟩ : ∃ S, pstRun i (M, leafI i v) (lvs pre) = S := ⟨_, rfl⟩
    rw [hS] at hVH hMU HPH
    obtain ⟨lv, hlv⟩ : ∃ y : Nat, x.1 = y := ⟨_, rfl⟩
    obtain ⟨k, hk⟩ : ∃ y : Nat, i / 2 ^ lv = y := ⟨_, rfl⟩
    obtain ⟨s, hs⟩ : ∃ y : Nat, sib k = y := ⟨_, rfl⟩
    obtain ⟨m, hm⟩ : ∃ y, N + pre.length = y := ⟨_, rfl⟩
    have hk9 : k ≤ 1000000000 := by
      have := Nat.div_le_self i (2 ^ lv)
      omega
    have hs9 : s ≤ 1000000001 := by
      rw [← hs]
      unfold sib
      split <;> omega
    have hm9 : m ≤ 1000000 := by omega
    unfold pstStep at HPH
    simp only at HPH
    rw [hlv, hk, hs] at HPH
    rw [hm] at hMU
    have HM := Lib.hid hm
    have HSB := Lib.hid hs
    have HKI := Lib.hid (show I64 (lv : Int) ∧ I64 (k : Int) ∧ I64 (s : Int) from by unfold I64; omega)
    obtain ⟨U, rfl⟩ : ∃ U : World, U = W := ⟨_, rfl⟩
    have zp0 : U.cell? ⟨gb, 0, none⟩ = some (.int .i64 lv) := by rw [← hlv]; exact hVg.cell 0
    have zp1 : U.cell? ⟨gb, 1, none⟩ = some (.int .i64 k) := by rw [← hk, ← hlv]; exact hVg.cell 1
    have zt : U.cell? ⟨bt, 0, none⟩ = some (.pointer (some ⟨g, 0, none⟩)) := only_cell hO (HVT4.out.cell 0) nbt
    have zg : U.cell? ⟨g, 2, none⟩ = some (.map (some bn)) := only_cell hO (HVG4.out.cell 2) ng
    have zh : U.cell? ⟨bh, 0, none⟩ = some (.int .u64 H) := hVH.cell 0
    have HHO := Lib.hid hO
    have HHH := Lib.hid hVH
    have HHN := Lib.hid hMU
    rw [hlv, hk]
    have e1 : bn < U.heap.size := hMU.lt
    have e2 : gb < U.heap.size := hVg.lt
    clear hS hlv hk hs hm hO hVH hMU hVg
    gi_wp2
    refine region_in (by kernel_rfl) (by kernel_rfl) ?_
    refine wpAny_go (fun A0 L aa w => ∃ (v38 v39 v40 v41 v42 v43 : Value), aa = fr A0 [(38, v38), (39, v39), (40, v40), (41, v41), (42, v42), (43, v43)] ∧ (Only (· = bn) U w) ∧ (Hid ((L 6 = false → MU w bn m Mx) ∧ (L 6 = true → MU w bn (m + 1) (putM Mx (plL lv k) H)))) ∧ Hid (L 0 = true → v38 = Value.pointer (some ⟨g, 0, none⟩)) ∧ Hid (L 1 = true → v39 = Value.pointer (some ⟨g, 0, none⟩)) ∧ Hid (L 2 = true → v40 = Value.pointer (some ⟨g, 2, none⟩)) ∧ Hid (L 3 = true → v41 = Value.map (some bn)) ∧ Hid (L 4 = true → v42 = Value.agg #[.int .i64 lv, .int .i64 k]) ∧ Hid (L 5 = true → v43 = Value.int .u64 H)) [0, 1, 2, 3, 4, 5, 6] (by kernel_rfl) (by kernel_rfl) ?a9I ?a9S ?a9D
    case a9I =>
      refine ⟨?a9v38, ?a9v39, ?a9v40, ?a9v41, ?a9v42, ?a9v43, ?a9fr, (Only.refl _ _).drew, Lib.hid ⟨fun _ => HHN.out.drew, no_yet (by kernel_rfl)⟩, Lib.hid (no_yet (by kernel_rfl)), Lib.hid (no_yet (by kernel_rfl)), Lib.hid (no_yet (by kernel_rfl)), Lib.hid (no_yet (by kernel_rfl)), Lib.hid (no_yet (by kernel_rfl)), Lib.hid (no_yet (by kernel_rfl))⟩
      case a9fr => (simp only [fr, List.foldl_cons, List.foldl_nil, Act.put, List.setIfInBounds_toArray, List.set_cons_zero, List.set_cons_succ]; rfl)
    case a9S =>
      refine Steps.plain (i := 0) (o := ?a9o0) [] ?a9h0 ?a9g0 ?a9d0 ?a9s0 ?a9r0
      case a9h0 => (simp only [List.getElem?_toArray, List.getElem?_cons_zero]; rfl)
      case a9g0 => rfl
      case a9d0 => kernel_rfl
      case a9s0 =>
        rintro L aa w h0 _ ⟨v38, v39, v40, v41, v42, v43, rfl, hO2, hN, hF⟩ K hK
        simp only [fr, List.foldl_cons, List.foldl_nil, Act.put, List.setIfInBounds_toArray, List.set_cons_zero, List.set_cons_succ]
        have x0 := only_cell hO2 zt (fun e => nbt (.inr e))
        go_simp
        exact hK _ _ ⟨(Value.pointer (some ⟨g, 0, none⟩)), v39, v40, v41, v42, v43, (by (simp only [fr, List.foldl_cons, List.foldl_nil, Act.put, List.setIfInBounds_toArray, List.set_cons_zero, List.set_cons_succ]); try rfl), hO2, hN, Lib.hid (fun _ => rfl), hF.2.1, hF.2.2.1, hF.2.2.2.1, hF.2.2.2.2.1, hF.2.2.2.2.2⟩
      refine Steps.plain (i := 1) (o := ?a9o1) [0] ?a9h1 ?a9g1 ?a9d1 ?a9s1 ?a9r1
      case a9h1 => (simp only [List.getElem?_toArray, List.getElem?_cons_succ, List.getElem?_cons_zero]; rfl)
      case a9g1 => rfl
      case a9d1 => kernel_rfl
      case a9s1 =>
        rintro L aa w h0 ⟨e0, _⟩ ⟨v38, v39, v40, v41, v42, v43, rfl, hO2, hN, hF⟩ K hK
        obtain rfl := (hF.1).out e0
        simp only [fr, List.foldl_cons, List.foldl_nil, Act.put, List.setIfInBounds_toArray, List.set_cons_zero, List.set_cons_succ]
        go_simp
        exact hK _ _ ⟨(Value.pointer (some ⟨g, 0, none⟩)), (Value.pointer (some ⟨g, 0, none⟩)), v40, v41, v42, v43, (by (simp only [fr, List.foldl_cons, List.foldl_nil, Act.put, List.setIfInBounds_toArray, List.set_cons_zero, List.set_cons_succ]); try rfl), hO2, hN, hF.1, Lib.hid (fun _ => rfl), hF.2.2.1, hF.2.2.2.1, hF.2.2.2.2.1, hF.2.2.2.2.2⟩
      refine Steps.plain (i := 2) (o := ?a9o2) [1] ?a9h2 ?a9g2 ?a9d2 ?a9s2 ?a9r2
      case a9h2 => (simp only [List.getElem?_toArray, List.getElem?_cons_succ, List.getElem?_cons_zero]; rfl)
      case a9g2 => rfl
      case a9d2 => kernel_rfl
      case a9s2 =>
        rintro L aa w h0 ⟨e1, _⟩ ⟨v38, v39, v40, v41, v42, v43, rfl, hO2, hN, hF⟩ K hK
        obtain rfl := (hF.2.1).out e1
        simp only [fr, List.foldl_cons, List.foldl_nil, Act.put, List.setIfInBounds_toArray, List.set_cons_zero, List.set_cons_succ]
        go_simp
        exact hK _ _ ⟨v38, (Value.pointer (some ⟨g, 0, none⟩)), (Value.pointer (some ⟨g, 2, none⟩)), v41, v42, v43, (by (simp only [fr, List.foldl_cons, List.foldl_nil, Act.put, List.setIfInBounds_toArray, List.set_cons_zero, List.set_cons_succ]); try rfl), hO2, hN, hF.1, hF.2.1, Lib.hid (fun _ => rfl), hF.2.2.2.1, hF.2.2.2.2.1, hF.2.2.2.2.2⟩
      refine Steps.plain (i := 3) (o := ?a9o3) [2] ?a9h3 ?a9g3 ?a9d3 ?a9s3 ?a9r3
      case a9h3 => (simp only [List.getElem?_toArray, List.getElem?_cons_succ, List.getElem?_cons_zero]; rfl)
      case a9g3 => rfl
      case a9d3 => kernel_rfl
      case a9s3 =>
        rintro L aa w h0 ⟨e2, _⟩ ⟨v38, v39, v40, v41, v42, v43, rfl, hO2, hN, hF⟩ K hK
        obtain rfl := (hF.2.2.1).out e2
        simp only [fr, List.foldl_cons, List.foldl_nil, Act.put, List.setIfInBounds_toArray, List.set_cons_zero, List.set_cons_succ]
        have x0 := only_cell hO2 zg (fun e => ng (.inr e))
        go_simp
        exact hK _ _ ⟨v38, v39, (Value.pointer (some ⟨g, 2, none⟩)), (Value.map (some bn)), v42, v43, (by (simp only [fr, List.foldl_cons, List.foldl_nil, Act.put, List.setIfInBounds_toArray, List.set_cons_zero, List.set_cons_succ]); try rfl), hO2, hN, hF.1, hF.2.1, hF.2.2.1, Lib.hid (fun _ => rfl), hF.2.2.2.2.1, hF.2.2.2.2.2⟩
      refine Steps.plain (i := 4) (o := ?a9o4) [] ?a9h4 ?a9g4 ?a9d4 ?a9s4 ?a9r4
      case a9h4 => (simp only [List.getElem?_toArray, List.getElem?_cons_succ, List.getElem?_cons_zero]; rfl)
      case a9g4 => rfl
      case a9d4 => kernel_rfl
      case a9s4 =>
        rintro L aa w h0 _ ⟨v38, v39, v40, v41, v42, v43, rfl, hO2, hN, hF⟩ K hK
        simp only [fr, List.foldl_cons, List.foldl_nil, Act.put, List.setIfInBounds_toArray, List.set_cons_zero, List.set_cons_succ]
        have x0 := only_cell hO2 zp0 (fun e => ngb (.inr e))
        have x1 := only_cell hO2 zp1 (fun e => ngb (.inr e))
        go_simp
        exact hK _ _ ⟨v38, v39, v40, v41, (Value.agg #[.int .i64 lv, .int .i64 k]), v43, (by (simp only [fr, List.foldl_cons, List.foldl_nil, Act.put, List.setIfInBounds_toArray, List.set_cons_zero, List.set_cons_succ]); try rfl), hO2, hN, hF.1, hF.2.1, hF.2.2.1, hF.2.2.2.1, Lib.hid (fun _ => rfl), hF.2.2.2.2.2⟩
      refine Steps.plain (i := 5) (o := ?a9o5) [] ?a9h5 ?a9g5 ?a9d5 ?a9s5 ?a9r5
      case a9h5 => (simp only [List.getElem?_toArray, List.getElem?_cons_succ, List.getElem?_cons_zero]; rfl)
      case a9g5 => rfl
      case a9d5 => kernel_rfl
      case a9s5 =>
        rintro L aa w h0 _ ⟨v38, v39, v40, v41, v42, v43, rfl, hO2, hN, hF⟩ K hK
        simp only [fr, List.foldl_cons, List.foldl_nil, Act.put, List.setIfInBounds_toArray, List.set_cons_zero, List.set_cons_succ]
        have x0 := only_cell hO2 zh nbh
        go_simp
        exact hK _ _ ⟨v38, v39, v40, v41, v42, (Value.int .u64 H), (by (simp only [fr, List.foldl_cons, List.foldl_nil, Act.put, List.setIfInBounds_toArray, List.set_cons_zero, List.set_cons_succ]); try rfl), hO2, hN, hF.1, hF.2.1, hF.2.2.1, hF.2.2.2.1, hF.2.2.2.2.1, Lib.hid (fun _ => rfl)⟩
      refine Steps.plain (i := 6) (o := ?a9o6) [3, 4, 5] ?a9h6 ?a9g6 ?a9d6 ?a9s6 ?a9r6
      case a9h6 => (simp only [List.getElem?_toArray, List.getElem?_cons_succ, List.getElem?_cons_zero]; rfl)
      case a9g6 => rfl
      case a9d6 => kernel_rfl
      case a9s6 =>
        rintro L aa w h0 ⟨e3, e4, e5, _⟩ ⟨v38, v39, v40, v41, v42, v43, rfl, hO2, hN, hF⟩ K hK
        obtain rfl := (hF.2.2.2.1).out e3
        obtain rfl := (hF.2.2.2.2.1).out e4
        obtain rfl := (hF.2.2.2.2.2).out e5
        simp only [fr, List.foldl_cons, List.foldl_nil, Act.put, List.setIfInBounds_toArray, List.set_cons_zero, List.set_cons_succ]
        refine step_storeU rfl (.tmp 41) (.tmp 42) (.tmp 43) rfl rfl (hN.out.1 h0) (by unfold maxLen; omega) rfl rfl HKI.out.1 HKI.out.2.1 ?_
        intro w3 m1 m2
        exact hK _ _ ⟨v38, v39, v40, (Value.map (some bn)), (Value.agg #[.int .i64 lv, .int .i64 k]), (Value.int .u64 H), (by (simp only [fr, List.foldl_cons, List.foldl_nil, Act.put, List.setIfInBounds_toArray, List.set_cons_zero, List.set_cons_succ]); try rfl), hO2.trans m2, Lib.hid ⟨(fun h => by cases h), fun _ => m1⟩, hF.1, hF.2.1, hF.2.2.1, hF.2.2.2.1, hF.2.2.2.2.1, hF.2.2.2.2.2⟩
      exact Steps.nil
    case a9D =>
      rintro L aa w hL ⟨v38, v39, v40, v41, v42, v43, rfl, hO2, hN, hF⟩
      obtain rfl := (hF.1).out (hL 0 (by decide))
      obtain rfl := (hF.2.1).out (hL 1 (by decide))
      obtain rfl := (hF.2.2.1).out (hL 2 (by decide))
      obtain rfl := (hF.2.2.2.1).out (hL 3 (by decide))
      obtain rfl := (hF.2.2.2.2.1).out (hL 4 (by decide))
      obtain rfl := (hF.2.2.2.2.2).out (hL 5 (by decide))
      have l0 := hL 0 (by decide)
      have l1 := hL 1 (by decide)
      have l2 := hL 2 (by decide)
      have l3 := hL 3 (by decide)
      have l4 := hL 4 (by decide)
      have l5 := hL 5 (by decide)
      have l6 := hL 6 (by decide)
      clear hL
      simp only [fr, List.foldl_cons, List.foldl_nil, Act.put, List.setIfInBounds_toArray, List.set_cons_zero, List.set_cons_succ]
      refine onlyN_mk ?_
      have n6 := Lib.hid (hN.out.2 l6)
      obtain ⟨V, rfl⟩ : ∃ V : World, V = w := ⟨_, rfl⟩
      have HV := Lib.hid hO2
      have y0 := only_cell hO2 zt (fun e => nbt (.inr e))
      have y1 := only_cell hO2 zg (fun e => ng (.inr e))
      have y2 := only_cell hO2 zp0 (fun e => ngb (.inr e))
      have y3 := only_cell hO2 zp1 (fun e => ngb (.inr e))
      have hvh := Lib.hid (HHH.out.only hO2 nbh)
      have e3 := hO2.size
      obtain ⟨p, hp⟩ : ∃ p, ((putM Mx (plL lv k) H) (plL lv s)).getD 0 = p := ⟨_, rfl⟩
      rw [hp] at HPH
      have HP := Lib.hid hp
      clear hN hO2 zt zg zp0 zp1 zh hp
      gi_wp2
      refine region_in (by kernel_rfl) (by kernel_rfl) ?_
      refine wpAny_go (fun A0 L aa w => ∃ (v44 v45 v46 v47 v48 v49 v50 v51 v52 v53 : Value), aa = fr A0 [(44, v44), (45, v45), (46, v46), (47, v47), (48, v48), (49, v49), (50, v50), (51, v51), (52, v52), (53, v53)] ∧ (L 10 = true → L 1 = true) ∧ (Only (· = bh) V w) ∧ (Hid ((L 10 = false → Vr w bh 22 #[.int .u64 H]) ∧ (L 10 = true → Vr w bh 22 #[.int .u64 (jn k H p)]))) ∧ Hid (L 0 = true → v44 = Value.agg #[.int .i64 lv, .int .i64 k]) ∧ Hid (L 1 = true → v45 = Value.int .u64 H) ∧ Hid (L 2 = true → v46 = Value.pointer (some ⟨g, 0, none⟩)) ∧ Hid (L 3 = true → v47 = Value.pointer (some ⟨g, 0, none⟩)) ∧ Hid (L 4 = true → v48 = Value.pointer (some ⟨g, 2, none⟩)) ∧ Hid (L 5 = true → v49 = Value.map (some bn)) ∧ Hid (L 6 = true → v50 = Value.agg #[.int .i64 lv, .int .i64 k]) ∧ Hid (L 7 = true → v51 = Value.agg #[.int .i64 lv, .int .i64 s]) ∧ Hid (L 8 = true → v52 = Value.int .u64 p) ∧ Hid (L 9 = true → v53 = Value.int .u64 (jn k H p))) [0, 1, 2, 3, 4, 5, 6, 7, 8, 9, 10] (by kernel_rfl) (by kernel_rfl) ?a8I ?a8S ?a8D
      case a8I =>
        refine ⟨?a8v44, ?a8v45, ?a8v46, ?a8v47, ?a8v48, ?a8v49, ?a8v50, ?a8v51, ?a8v52, ?a8v53, ?a8fr, no_yet (by kernel_rfl), (Only.refl _ _).drew, Lib.hid ⟨fun _ => hvh.out.drew, no_yet (by kernel_rfl)⟩, Lib.hid (no_yet (by kernel_rfl)), Lib.hid (no_yet (by kernel_rfl)), Lib.hid (no_yet (by kernel_rfl)), Lib.hid (no_yet (by kernel_rfl)), Lib.hid (no_yet (by kernel_rfl)), Lib.hid (no_yet (by kernel_rfl)), Lib.hid (no_yet (by kernel_rfl)), Lib.hid (no_yet (by kernel_rfl)), Lib.hid (no_yet (by kernel_rfl)), Lib.hid (no_yet (by kernel_rfl))⟩
        case a8fr => (simp only [fr, List.foldl_cons, List.foldl_nil, Act.put, List.setIfInBounds_toArray, List.set_cons_zero, List.set_cons_succ]; rfl)
      case a8S =>
        refine Steps.plain (i := 0) (o := ?a8o0) [] ?a8h0 ?a8g0 ?a8d0 ?a8s0 ?a8r0
        case a8h0 => (simp only [List.getElem?_toArray, List.getElem?_cons_zero]; rfl)
        case a8g0 => rfl
        case a8d0 => kernel_rfl
        case a8s0 =>
          rintro L aa w h0 _ ⟨v44, v45, v46, v47, v48, v49, v50, v51, v52, v53, rfl, hY, hO3, hH3, hF⟩ K hK
          simp only [fr, List.foldl_cons, List.foldl_nil, Act.put, List.setIfInBounds_toArray, List.set_cons_zero, List.set_cons_succ]
          have x0 := only_cell hO3 y2 (fun e => ngb (.inl e))
          have x1 := only_cell hO3 y3 (fun e => ngb (.inl e))
          go_simp
          exact hK _ _ ⟨(Value.agg #[.int .i64 lv, .int .i64 k]), v45, v46, v47, v48, v49, v50, v51, v52, v53, (by (simp only [fr, List.foldl_cons, List.foldl_nil, Act.put, List.setIfInBounds_toArray, List.set_cons_zero, List.set_cons_succ]); try rfl), hY, hO3, hH3, Lib.hid (fun _ => rfl), hF.2.1, hF.2.2.1, hF.2.2.2.1, hF.2.2.2.2.1, hF.2.2.2.2.2.1, hF.2.2.2.2.2.2.1, hF.2.2.2.2.2.2.2.1, hF.2.2.2.2.2.2.2.2.1, hF.2.2.2.2.2.2.2.2.2⟩
        refine Steps.plain (i := 1) (o := ?a8o1) [] ?a8h1 ?a8g1 ?a8d1 ?a8s1 ?a8r1
        case a8h1 => (simp only [List.getElem?_toArray, List.getElem?_cons_succ, List.getElem?_cons_zero]; rfl)
        case a8g1 => rfl
        case a8d1 => kernel_rfl
        case a8s1 =>
          rintro L aa w h0 _ ⟨v44, v45, v46, v47, v48, v49, v50, v51, v52, v53, rfl, hY, hO3, hH3, hF⟩ K hK
          simp only [fr, List.foldl_cons, List.foldl_nil, Act.put, List.setIfInBounds_toArray, List.set_cons_zero, List.set_cons_succ]
          have e10 : L 10 = false := by rcases h : L 10 with _ | _ <;> first | rfl | exact absurd (hY h) (by simp [h0])
          have x0 : w.cell? ⟨bh, 0, none⟩ = some (.int .u64 H) := (hH3.out.1 e10).cell 0
          go_simp
          exact hK _ _ ⟨v44, (Value.int .u64 H), v46, v47, v48, v49, v50, v51, v52, v53, (by (simp only [fr, List.foldl_cons, List.foldl_nil, Act.put, List.setIfInBounds_toArray, List.set_cons_zero, List.set_cons_succ]); try rfl), fun _ => rfl, hO3, hH3, hF.1, Lib.hid (fun _ => rfl), hF.2.2.1, hF.2.2.2.1, hF.2.2.2.2.1, hF.2.2.2.2.2.1, hF.2.2.2.2.2.2.1, hF.2.2.2.2.2.2.2.1, hF.2.2.2.2.2.2.2.2.1, hF.2.2.2.2.2.2.2.2.2⟩
        refine Steps.plain (i := 2) (o := ?a8o2) [] ?a8h2 ?a8g2 ?a8d2 ?a8s2 ?a8r2
        case a8h2 => (simp only [List.getElem?_toArray, List.getElem?_cons_succ, List.getElem?_cons_zero]; rfl)
        case a8g2 => rfl
        case a8d2 => kernel_rfl
        case a8s2 =>
          rintro L aa w h0 _ ⟨v44, v45, v46, v47, v48, v49, v50, v51, v52, v53, rfl, hY, hO3, hH3, hF⟩ K hK
          simp only [fr, List.foldl_cons, List.foldl_nil, Act.put, List.setIfInBounds_toArray, List.set_cons_zero, List.set_cons_succ]
          have x0 := only_cell hO3 y0 (fun e => nbt (.inl e))
          go_simp
          exact hK _ _ ⟨v44, v45, (Value.pointer (some ⟨g, 0, none⟩)), v47, v48, v49, v50, v51, v52, v53, (by (simp only [fr, List.foldl_cons, List.foldl_nil, Act.put, List.setIfInBounds_toArray, List.set_cons_zero, List.set_cons_succ]); try rfl), hY, hO3, hH3, hF.1, hF.2.1, Lib.hid (fun _ => rfl), hF.2.2.2.1, hF.2.2.2.2.1, hF.2.2.2.2.2.1, hF.2.2.2.2.2.2.1, hF.2.2.2.2.2.2.2.1, hF.2.2.2.2.2.2.2.2.1, hF.2.2.2.2.2.2.2.2.2⟩
        refine Steps.plain (i := 3) (o := ?a8o3) [2] ?a8h3 ?a8g3 ?a8d3 ?a8s3 ?a8r3
        case a8h3 => (simp only [List.getElem?_toArray, List.getElem?_cons_succ, List.getElem?_cons_zero]; rfl)
        case a8g3 => rfl
        case a8d3 => kernel_rfl
        case a8s3 =>
          rintro L aa w h0 ⟨e2, _⟩ ⟨v44, v45, v46, v47, v48, v49, v50, v51, v52, v53, rfl, hY, hO3, hH3, hF⟩ K hK
          obtain rfl := (hF.2.2.1).out e2
          simp only [fr, List.foldl_cons, List.foldl_nil, Act.put, List.setIfInBounds_toArray, List.set_cons_zero, List.set_cons_succ]
          go_simp
          exact hK _ _ ⟨v44, v45, (Value.pointer (some ⟨g, 0, none⟩)), (Value.pointer (some ⟨g, 0, none⟩)), v48, v49, v50, v51, v52, v53, (by (simp only [fr, List.foldl_cons, List.foldl_nil, Act.put, List.setIfInBounds_toArray, List.set_cons_zero, List.set_cons_succ]); try rfl), hY, hO3, hH3, hF.1, hF.2.1, hF.2.2.1, Lib.hid (fun _ => rfl), hF.2.2.2.2.1, hF.2.2.2.2.2.1, hF.2.2.2.2.2.2.1, hF.2.2.2.2.2.2.2.1, hF.2.2.2.2.2.2.2.2.1, hF.2.2.2.2.2.2.2.2.2⟩
        refine Steps.plain (i := 4) (o := ?a8o4) [3] ?a8h4 ?a8g4 ?a8d4 ?a8s4 ?a8r4
        case a8h4 => (simp only [List.getElem?_toArray, List.getElem?_cons_succ, List.getElem?_cons_zero]; rfl)
        case a8g4 => rfl
        case a8d4 => kernel_rfl
        case a8s4 =>
          rintro L aa w h0 ⟨e3, _⟩ ⟨v44, v45, v46, v47, v48, v49, v50, v51, v52, v53, rfl, hY, hO3, hH3, hF⟩ K hK
          obtain rfl := (hF.2.2.2.1).out e3
          simp only [fr, List.foldl_cons, List.foldl_nil, Act.put, List.setIfInBounds_toArray, List.set_cons_zero, List.set_cons_succ]
          go_simp
          exact hK _ _ ⟨v44, v45, v46, (Value.pointer (some ⟨g, 0, none⟩)), (Value.pointer (some ⟨g, 2, none⟩)), v49, v50, v51, v52, v53, (by (simp only [fr, List.foldl_cons, List.foldl_nil, Act.put, List.setIfInBounds_toArray, List.set_cons_zero, List.set_cons_succ]); try rfl), hY, hO3, hH3, hF.1, hF.2.1, hF.2.2.1, hF.2.2.2.1, Lib.hid (fun _ => rfl), hF.2.2.2.2.2.1, hF.2.2.2.2.2.2.1, hF.2.2.2.2.2.2.2.1, hF.2.2.2.2.2.2.2.2.1, hF.2.2.2.2.2.2.2.2.2⟩
        refine Steps.plain (i := 5) (o := ?a8o5) [4] ?a8h5 ?a8g5 ?a8d5 ?a8s5 ?a8r5
        case a8h5 => (simp only [List.getElem?_toArray, List.getElem?_cons_succ, List.getElem?_cons_zero]; rfl)
        case a8g5 => rfl
        case a8d5 => kernel_rfl
        case a8s5 =>
          rintro L aa w h0 ⟨e4, _⟩ ⟨v44, v45, v46, v47, v48, v49, v50, v51, v52, v53, rfl, hY, hO3, hH3, hF⟩ K hK
          obtain rfl := (hF.2.2.2.2.1).out e4
          simp only [fr, List.foldl_cons, List.foldl_nil, Act.put, List.setIfInBounds_toArray, List.set_cons_zero, List.set_cons_succ]
          have x0 := only_cell hO3 y1 (fun e => ng (.inl e))
          go_simp
          exact hK _ _ ⟨v44, v45, v46, v47, (Value.pointer (some ⟨g, 2, none⟩)), (Value.map (some bn)), v50, v51, v52, v53, (by (simp only [fr, List.foldl_cons, List.foldl_nil, Act.put, List.setIfInBounds_toArray, List.set_cons_zero, List.set_cons_succ]); try rfl), hY, hO3, hH3, hF.1, hF.2.1, hF.2.2.1, hF.2.2.2.1, hF.2.2.2.2.1, Lib.hid (fun _ => rfl), hF.2.2.2.2.2.2.1, hF.2.2.2.2.2.2.2.1, hF.2.2.2.2.2.2.2.2.1, hF.2.2.2.2.2.2.2.2.2⟩
        refine Steps.plain (i := 6) (o := ?a8o6) [] ?a8h6 ?a8g6 ?a8d6 ?a8s6 ?a8r6
        case a8h6 => (simp only [List.getElem?_toArray, List.getElem?_cons_succ, List.getElem?_cons_zero]; rfl)
        case a8g6 => rfl
        case a8d6 => kernel_rfl
        case a8s6 =>
          rintro L aa w h0 _ ⟨v44, v45, v46, v47, v48, v49, v50, v51, v52, v53, rfl, hY, hO3, hH3, hF⟩ K hK
          simp only [fr, List.foldl_cons, List.foldl_nil, Act.put, List.setIfInBounds_toArray, List.set_cons_zero, List.set_cons_succ]
          have x0 := only_cell hO3 y2 (fun e => ngb (.inl e))
          have x1 := only_cell hO3 y3 (fun e => ngb (.inl e))
          go_simp
          exact hK _ _ ⟨v44, v45, v46, v47, v48, v49, (Value.agg #[.int .i64 lv, .int .i64 k]), v51, v52, v53, (by (simp only [fr, List.foldl_cons, List.foldl_nil, Act.put, List.setIfInBounds_toArray, List.set_cons_zero, List.set_cons_succ]); try rfl), hY, hO3, hH3, hF.1, hF.2.1, hF.2.2.1, hF.2.2.2.1, hF.2.2.2.2.1, hF.2.2.2.2.2.1, Lib.hid (fun _ => rfl), hF.2.2.2.2.2.2.2.1, hF.2.2.2.2.2.2.2.2.1, hF.2.2.2.2.2.2.2.2.2⟩
        refine Steps.plain (i := 7) (o := ?a8o7) [6] ?a8h7 ?a8g7 ?a8d7 ?a8s7 ?a8r7
        case a8h7 => (simp only [List.getElem?_toArray, List.getElem?_cons_succ, List.getElem?_cons_zero]; rfl)
        case a8g7 => rfl
        case a8d7 => kernel_rfl
        case a8s7 =>
          rintro L aa w h0 ⟨e6, _⟩ ⟨v44, v45, v46, v47, v48, v49, v50, v51, v52, v53, rfl, hY, hO3, hH3, hF⟩ K hK
          obtain rfl := (hF.2.2.2.2.2.2.1).out e6
          simp only [fr, List.foldl_cons, List.foldl_nil, Act.put, List.setIfInBounds_toArray, List.set_cons_zero, List.set_cons_succ]
          go_simp
          refine (sibling_any lv k _ hk9).mono ?_
          rintro e w3 ⟨rfl, hb3⟩
          rw [HSB.out]
          exact hK _ _ ⟨v44, v45, v46, v47, v48, v49, (Value.agg #[.int .i64 lv, .int .i64 k]), (Value.agg #[.int .i64 lv, .int .i64 s]), v52, v53, (by (simp only [fr, List.foldl_cons, List.foldl_nil, Act.put, List.setIfInBounds_toArray, List.set_cons_zero, List.set_cons_succ]); try rfl), hY, o_below hO3 hb3, Lib.hid ⟨fun h => (hH3.out.1 h).call hb3, fun h => (hH3.out.2 h).call hb3⟩, hF.1, hF.2.1, hF.2.2.1, hF.2.2.2.1, hF.2.2.2.2.1, hF.2.2.2.2.2.1, hF.2.2.2.2.2.2.1, Lib.hid (fun _ => rfl), hF.2.2.2.2.2.2.2.2.1, hF.2.2.2.2.2.2.2.2.2⟩
        refine Steps.plain (i := 8) (o := ?a8o8) [5, 7] ?a8h8 ?a8g8 ?a8d8 ?a8s8 ?a8r8
        case a8h8 => (simp only [List.getElem?_toArray, List.getElem?_cons_succ, List.getElem?_cons_zero]; rfl)
        case a8g8 => rfl
        case a8d8 => kernel_rfl
        case a8s8 =>
          rintro L aa w h0 ⟨e5, e7, _⟩ ⟨v44, v45, v46, v47, v48, v49, v50, v51, v52, v53, rfl, hY, hO3, hH3, hF⟩ K hK
          obtain rfl := (hF.2.2.2.2.2.1).out e5
          obtain rfl := (hF.2.2.2.2.2.2.2.1).out e7
          simp only [fr, List.foldl_cons, List.foldl_nil, Act.put, List.setIfInBounds_toArray, List.set_cons_zero, List.set_cons_succ]
          refine step_lookU 52 rfl (.tmp 49) (.tmp 51) rfl rfl (n6.out.only hO3 (fun e => nbh e.symm)) rfl HKI.out.1 HKI.out.2.2 HP.out ?_
          simp only [Act.put, List.setIfInBounds_toArray, List.set_cons_zero, List.set_cons_succ]
          exact hK _ _ ⟨v44, v45, v46, v47, v48, (Value.map (some bn)), v50, (Value.agg #[.int .i64 lv, .int .i64 s]), (Value.int .u64 p), v53, (by (simp only [fr, List.foldl_cons, List.foldl_nil, Act.put, List.setIfInBounds_toArray, List.set_cons_zero, List.set_cons_succ]); try rfl), hY, hO3, hH3, hF.1, hF.2.1, hF.2.2.1, hF.2.2.2.1, hF.2.2.2.2.1, hF.2.2.2.2.2.1, hF.2.2.2.2.2.2.1, hF.2.2.2.2.2.2.2.1, Lib.hid (fun _ => rfl), hF.2.2.2.2.2.2.2.2.2⟩
        refine Steps.plain (i := 9) (o := ?a8o9) [0, 1, 8] ?a8h9 ?a8g9 ?a8d9 ?a8s9 ?a8r9
        case a8h9 => (simp only [List.getElem?_toArray, List.getElem?_cons_succ, List.getElem?_cons_zero]; rfl)
        case a8g9 => rfl
        case a8d9 => kernel_rfl
        case a8s9 =>
          rintro L aa w h0 ⟨e0, e1, e8, _⟩ ⟨v44, v45, v46, v47, v48, v49, v50, v51, v52, v53, rfl, hY, hO3, hH3, hF⟩ K hK
          obtain rfl := (hF.1).out e0
          obtain rfl := (hF.2.1).out e1
          obtain rfl := (hF.2.2.2.2.2.2.2.2.1).out e8
          simp only [fr, List.foldl_cons, List.foldl_nil, Act.put, List.setIfInBounds_toArray, List.set_cons_zero, List.set_cons_succ]
          go_simp
          refine (join_any lv k H p _).mono ?_
          rintro e w3 ⟨rfl, hb3⟩
          exact hK _ _ ⟨(Value.agg #[.int .i64 lv, .int .i64 k]), (Value.int .u64 H), v46, v47, v48, v49, v50, v51, (Value.int .u64 p), (Value.int .u64 (jn k H p)), (by (simp only [fr, List.foldl_cons, List.foldl_nil, Act.put, List.setIfInBounds_toArray, List.set_cons_zero, List.set_cons_succ]); try rfl), hY, o_below hO3 hb3, Lib.hid ⟨fun h => (hH3.out.1 h).call hb3, fun h => (hH3.out.2 h).call hb3⟩, hF.1, hF.2.1, hF.2.2.1, hF.2.2.2.1, hF.2.2.2.2.1, hF.2.2.2.2.2.1, hF.2.2.2.2.2.2.1, hF.2.2.2.2.2.2.2.1, hF.2.2.2.2.2.2.2.2.1, Lib.hid (fun _ => rfl)⟩
        refine Steps.plain (i := 10) (o := ?a8o10) [1, 9] ?a8h10 ?a8g10 ?a8d10 ?a8s10 ?a8r10
        case a8h10 => (simp only [List.getElem?_toArray, List.getElem?_cons_succ, List.getElem?_cons_zero]; rfl)
        case a8g10 => rfl
        case a8d10 => kernel_rfl
        case a8s10 =>
          rintro L aa w h0 ⟨e1, e9, _⟩ ⟨v44, v45, v46, v47, v48, v49, v50, v51, v52, v53, rfl, hY, hO3, hH3, hF⟩ K hK
          obtain rfl := (hF.2.1).out e1
          obtain rfl := (hF.2.2.2.2.2.2.2.2.2).out e9
          simp only [fr, List.foldl_cons, List.foldl_nil, Act.put, List.setIfInBounds_toArray, List.set_cons_zero, List.set_cons_succ]
          have v0 := hH3.out.1 h0
          have HV0 := Lib.hid v0
          have x0 : w.cell? ⟨bh, 0, none⟩ = some (.int .u64 H) := v0.cell 0
          have x1 := v0.frozen 0
          have x2 := v0.lt
          clear v0
          go_simp
          exact hK _ _ ⟨v44, (Value.int .u64 H), v46, v47, v48, v49, v50, v51, v52, (Value.int .u64 (jn k H p)), (by (simp only [fr, List.foldl_cons, List.foldl_nil, Act.put, List.setIfInBounds_toArray, List.set_cons_zero, List.set_cons_succ]); try rfl), fun _ => e1, o_set hO3 0 _, Lib.hid ⟨(fun h => by cases h), fun _ => HV0.out.set 0 _⟩, hF.1, hF.2.1, hF.2.2.1, hF.2.2.2.1, hF.2.2.2.2.1, hF.2.2.2.2.2.1, hF.2.2.2.2.2.2.1, hF.2.2.2.2.2.2.2.1, hF.2.2.2.2.2.2.2.2.1, hF.2.2.2.2.2.2.2.2.2⟩
        exact Steps.nil
      case a8D =>
        rintro L aa w hL ⟨v44, v45, v46, v47, v48, v49, v50, v51, v52, v53, rfl, hY, hO3, hH3, hF⟩
        obtain rfl := (hF.1).out (hL 0 (by decide))
        obtain rfl := (hF.2.1).out (hL 1 (by decide))
        obtain rfl := (hF.2.2.1).out (hL 2 (by decide))
        obtain rfl := (hF.2.2.2.1).out (hL 3 (by decide))
        obtain rfl := (hF.2.2.2.2.1).out (hL 4 (by decide))
        obtain rfl := (hF.2.2.2.2.2.1).out (hL 5 (by decide))
        obtain rfl := (hF.2.2.2.2.2.2.1).out (hL 6 (by decide))
        obtain rfl := (hF.2.2.2.2.2.2.2.1).out (hL 7 (by decide))
        obtain rfl := (hF.2.2.2.2.2.2.2.2.1).out (hL 8 (by decide))
        obtain rfl := (hF.2.2.2.2.2.2.2.2.2).out (hL 9 (by decide))
        have l0 := hL 0 (by decide)
        have l1 := hL 1 (by decide)
        have l2 := hL 2 (by decide)
        have l3 := hL 3 (by decide)
        have l4 := hL 4 (by decide)
        have l5 := hL 5 (by decide)
        have l6 := hL 6 (by decide)
        have l7 := hL 7 (by decide)
        have l8 := hL 8 (by decide)
        have l9 := hL 9 (by decide)
        have l10 := hL 10 (by decide)
        clear hL
        simp only [fr, List.foldl_cons, List.foldl_nil, Act.put, List.setIfInBounds_toArray, List.set_cons_zero, List.set_cons_succ]
        refine onlyN_mk ?_
        have n9 := n6.out.only hO3 (fun e => nbh e.symm)
        gi_wp2
        have o9 : Only (fun j => j = bh ∨ j = bn) U w := (HV.out.mono (fun j _ e => .inr e)).trans (hO3.mono (fun j _ e => .inl e))
        refine ⟨keepsFrom_only o9 (fun j hj => by omega), Kp2.of_only o9 (by omega) (by omega) (by omega) (by omega), HHO.out.trans o9, ?_, ?_⟩
        · rw [HPH.out]
          exact hH3.out.2 l10
        · rw [HPH.out]
          refine MU.mono (n := m + 1) n9 ?_
          have := HM.out
          rw [List.length_append, List.length_singleton]
          omega
  case done =>
    rintro D ys W hD hys ⟨hO, hVH, hMU⟩ hK
    have hlen : ys.length = q := by
      have := congrArg List.length hys
      simpa [lvs] using this
    rw [hys, hlen] at hMU
    rw [hys] at hVH
    obtain ⟨⟨Mx, H⟩, hS⟩ : ∃ S, pstRun i (M, leafI i v) (List.range q) = S := ⟨_, rfl⟩
    rw [hS] at hVH hMU
    have HS := Lib.hid hS
    have hzs := HZs.out
    have nbc : ¬ (bc = bh ∨ bc = bn) := by omega
    have ng : ¬ (g = bh ∨ g = bn) := by omega
    have nbt : ¬ (bt = bh ∨ bt = bn) := by omega
    have nbh : ¬ bh = bn := by omega
    obtain ⟨Z, rfl⟩ : ∃ Z : World, Z = W := ⟨_, rfl⟩
    have pC := Lib.hid (HC4.out.only hO nbc)
    have pV := Lib.hid (HVG4.out.only hO ng)
    have pN := Lib.hid hMU
    have HK := Lib.hid hK
    have hDs := (Array.getElem?_eq_some_iff.1 hK).1
    have oW := Lib.hid (show Only (fun k => k = bc ∨ k = bn) W0 Z from (HO4.out).step hO (fun j hj h => by have h3 := HB0.out; omega))
    have zt : Z.cell? ⟨bt, 0, none⟩ = some (.pointer (some ⟨g, 0, none⟩)) := only_cell hO (HVT4.out.cell 0) nbt
    have zg0 : Z.cell? ⟨g, 0, none⟩ = some (.int .i64 q) := pV.out.cell 0
    have zg2 : Z.cell? ⟨g, 2, none⟩ = some (.map (some bn)) := pV.out.cell 2
    have zh : Z.cell? ⟨bh, 0, none⟩ = some (.int .u64 H) := hVH.cell 0
    have HKI := Lib.hid (show I64 (q : Int) ∧ I64 (0 : Int) from by unfold I64; omega)
    clear hys hlen hVH hMU hO hK hS
    gi_wp2
    refine wpIn_wide.2 ?_
    refine wp_region_any (by kernel_rfl) ?_
    change wpAny _ _ _ _ _ _ _ (World.drew _)
    refine wpAny_go (fun A0 L aa w => ∃ (v54 v55 v56 v57 v58 v59 v60 v61 v62 v63 : Value), aa = fr A0 [(54, v54), (55, v55), (56, v56), (57, v57), (58, v58), (59, v59), (60, v60), (61, v61), (62, v62), (63, v63)] ∧ (Only (· = bn) Z w) ∧ (Hid ((L 10 = false → MU w bn (N + q) Mx) ∧ (L 10 = true → MU w bn (N + q + 1) (putM Mx (plL q 0) H)))) ∧ Hid (L 0 = true → v54 = Value.pointer (some ⟨g, 0, none⟩)) ∧ Hid (L 1 = true → v55 = Value.pointer (some ⟨g, 0, none⟩)) ∧ Hid (L 2 = true → v56 = Value.pointer (some ⟨g, 2, none⟩)) ∧ Hid (L 3 = true → v57 = Value.map (some bn)) ∧ Hid (L 4 = true → v58 = Value.pointer (some ⟨g, 0, none⟩)) ∧ Hid (L 5 = true → v59 = Value.pointer (some ⟨g, 0, none⟩)) ∧ Hid (L 6 = true → v60 = Value.pointer (some ⟨g, 0, none⟩)) ∧ Hid (L 7 = true → v61 = Value.int .i64 q) ∧ Hid (L 8 = true → v62 = Value.agg #[.int .i64 q, .int .i64 0]) ∧ Hid (L 9 = true → v63 = Value.int .u64 H)) [0, 1, 2, 3, 4, 5, 6, 7, 8, 9, 10] (by kernel_rfl) (by kernel_rfl) ?a7I ?a7S ?a7D
    case a7I =>
      refine ⟨?a7v54, ?a7v55, ?a7v56, ?a7v57, ?a7v58, ?a7v59, ?a7v60, ?a7v61, ?a7v62, ?a7v63, ?a7fr, (Only.refl _ _).drew, Lib.hid ⟨fun _ => pN.out.drew, no_yet (by kernel_rfl)⟩, Lib.hid (no_yet (by kernel_rfl)), Lib.hid (no_yet (by kernel_rfl)), Lib.hid (no_yet (by kernel_rfl)), Lib.hid (no_yet (by kernel_rfl)), Lib.hid (no_yet (by kernel_rfl)), Lib.hid (no_yet (by kernel_rfl)), Lib.hid (no_yet (by kernel_rfl)), Lib.hid (no_yet (by kernel_rfl)), Lib.hid (no_yet (by kernel_rfl)), Lib.hid (no_yet (by kernel_rfl))⟩
      case a7fr => (simp only [fr, List.foldl_cons, List.foldl_nil, Act.put, List.setIfInBounds_toArray, List.set_cons_zero, List.set_cons_succ]; rfl)
    case a7S =>
      refine Steps.plain (i := 0) (o := ?a7o0) [] ?a7h0 ?a7g0 ?a7d0 ?a7s0 ?a7r0
      case a7h0 => (simp only [List.getElem?_toArray, List.getElem?_cons_zero]; rfl)
      case a7g0 => rfl
      case a7d0 => kernel_rfl
      case a7s0 =>
        rintro L aa w h0 _ ⟨v54, v55, v56, v57, v58, v59, v60, v61, v62, v63, rfl, hO2, hN, hF⟩ K hK
        simp only [fr, List.foldl_cons, List.foldl_nil, Act.put, List.setIfInBounds_toArray, List.set_cons_zero, List.set_cons_succ]
        have x0 := only_cell hO2 zt (fun e => nbt (.inr e))
        go_simp
        exact hK _ _ ⟨(Value.pointer (some ⟨g, 0, none⟩)), v55, v56, v57, v58, v59, v60, v61, v62, v63, (by (simp only [fr, List.foldl_cons, List.foldl_nil, Act.put, List.setIfInBounds_toArray, List.set_cons_zero, List.set_cons_succ]); try rfl), hO2, hN, Lib.hid (fun _ => rfl), hF.2.1, hF.2.2.1, hF.2.2.2.1, hF.2.2.2.2.1, hF.2.2.2.2.2.1, hF.2.2.2.2.2.2.1, hF.2.2.2.2.2.2.2.1, hF.2.2.2.2.2.2.2.2.1, hF.2.2.2.2.2.2.2.2.2⟩
      refine Steps.plain (i := 1) (o := ?a7o1) [0] ?a7h1 ?a7g1 ?a7d1 ?a7s1 ?a7r1
      case a7h1 => (simp only [List.getElem?_toArray, List.getElem?_cons_succ, List.getElem?_cons_zero]; rfl)
      case a7g1 => rfl
      case a7d1 => kernel_rfl
      case a7s1 =>
        rintro L aa w h0 ⟨e0, _⟩ ⟨v54, v55, v56, v57, v58, v59, v60, v61, v62, v63, rfl, hO2, hN, hF⟩ K hK
        obtain rfl := (hF.1).out e0
        simp only [fr, List.foldl_cons, List.foldl_nil, Act.put, List.setIfInBounds_toArray, List.set_cons_zero, List.set_cons_succ]
        go_simp
        exact hK _ _ ⟨(Value.pointer (some ⟨g, 0, none⟩)), (Value.pointer (some ⟨g, 0, none⟩)), v56, v57, v58, v59, v60, v61, v62, v63, (by (simp only [fr, List.foldl_cons, List.foldl_nil, Act.put, List.setIfInBounds_toArray, List.set_cons_zero, List.set_cons_succ]); try rfl), hO2, hN, hF.1, Lib.hid (fun _ => rfl), hF.2.2.1, hF.2.2.2.1, hF.2.2.2.2.1, hF.2.2.2.2.2.1, hF.2.2.2.2.2.2.1, hF.2.2.2.2.2.2.2.1, hF.2.2.2.2.2.2.2.2.1, hF.2.2.2.2.2.2.2.2.2⟩
      refine Steps.plain (i := 2) (o := ?a7o2) [1] ?a7h2 ?a7g2 ?a7d2 ?a7s2 ?a7r2
      case a7h2 => (simp only [List.getElem?_toArray, List.getElem?_cons_succ, List.getElem?_cons_zero]; rfl)
      case a7g2 => rfl
      case a7d2 => kernel_rfl
      case a7s2 =>
        rintro L aa w h0 ⟨e1, _⟩ ⟨v54, v55, v56, v57, v58, v59, v60, v61, v62, v63, rfl, hO2, hN, hF⟩ K hK
        obtain rfl := (hF.2.1).out e1
        simp only [fr, List.foldl_cons, List.foldl_nil, Act.put, List.setIfInBounds_toArray, List.set_cons_zero, List.set_cons_succ]
        go_simp
        exact hK _ _ ⟨v54, (Value.pointer (some ⟨g, 0, none⟩)), (Value.pointer (some ⟨g, 2, none⟩)), v57, v58, v59, v60, v61, v62, v63, (by (simp only [fr, List.foldl_cons, List.foldl_nil, Act.put, List.setIfInBounds_toArray, List.set_cons_zero, List.set_cons_succ]); try rfl), hO2, hN, hF.1, hF.2.1, Lib.hid (fun _ => rfl), hF.2.2.2.1, hF.2.2.2.2.1, hF.2.2.2.2.2.1, hF.2.2.2.2.2.2.1, hF.2.2.2.2.2.2.2.1, hF.2.2.2.2.2.2.2.2.1, hF.2.2.2.2.2.2.2.2.2⟩
      refine Steps.plain (i := 3) (o := ?a7o3) [2] ?a7h3 ?a7g3 ?a7d3 ?a7s3 ?a7r3
      case a7h3 => (simp only [List.getElem?_toArray, List.getElem?_cons_succ, List.getElem?_cons_zero]; rfl)
      case a7g3 => rfl
      case a7d3 => kernel_rfl
      case a7s3 =>
        rintro L aa w h0 ⟨e2, _⟩ ⟨v54, v55, v56, v57, v58, v59, v60, v61, v62, v63, rfl, hO2, hN, hF⟩ K hK
        obtain rfl := (hF.2.2.1).out e2
        simp only [fr, List.foldl_cons, List.foldl_nil, Act.put, List.setIfInBounds_toArray, List.set_cons_zero, List.set_cons_succ]
        have x0 := only_cell hO2 zg2 (fun e => ng (.inr e))
        go_simp
        exact hK _ _ ⟨v54, v55, (Value.pointer (some ⟨g, 2, none⟩)), (Value.map (some bn)), v58, v59, v60, v61, v62, v63, (by (simp only [fr, List.foldl_cons, List.foldl_nil, Act.put, List.setIfInBounds_toArray, List.set_cons_zero, List.set_cons_succ]); try rfl), hO2, hN, hF.1, hF.2.1, hF.2.2.1, Lib.hid (fun _ => rfl), hF.2.2.2.2.1, hF.2.2.2.2.2.1, hF.2.2.2.2.2.2.1, hF.2.2.2.2.2.2.2.1, hF.2.2.2.2.2.2.2.2.1, hF.2.2.2.2.2.2.2.2.2⟩
      refine Steps.plain (i := 4) (o := ?a7o4) [] ?a7h4 ?a7g4 ?a7d4 ?a7s4 ?a7r4
      case a7h4 => (simp only [List.getElem?_toArray, List.getElem?_cons_succ, List.getElem?_cons_zero]; rfl)
      case a7g4 => rfl
      case a7d4 => kernel_rfl
      case a7s4 =>
        rintro L aa w h0 _ ⟨v54, v55, v56, v57, v58, v59, v60, v61, v62, v63, rfl, hO2, hN, hF⟩ K hK
        simp only [fr, List.foldl_cons, List.foldl_nil, Act.put, List.setIfInBounds_toArray, List.set_cons_zero, List.set_cons_succ]
        have x0 := only_cell hO2 zt (fun e => nbt (.inr e))
        go_simp
        exact hK _ _ ⟨v54, v55, v56, v57, (Value.pointer (some ⟨g, 0, none⟩)), v59, v60, v61, v62, v63, (by (simp only [fr, List.foldl_cons, List.foldl_nil, Act.put, List.setIfInBounds_toArray, List.set_cons_zero, List.set_cons_succ]); try rfl), hO2, hN, hF.1, hF.2.1, hF.2.2.1, hF.2.2.2.1, Lib.hid (fun _ => rfl), hF.2.2.2.2.2.1, hF.2.2.2.2.2.2.1, hF.2.2.2.2.2.2.2.1, hF.2.2.2.2.2.2.2.2.1, hF.2.2.2.2.2.2.2.2.2⟩
      refine Steps.plain (i := 5) (o := ?a7o5) [4] ?a7h5 ?a7g5 ?a7d5 ?a7s5 ?a7r5
      case a7h5 => (simp only [List.getElem?_toArray, List.getElem?_cons_succ, List.getElem?_cons_zero]; rfl)
      case a7g5 => rfl
      case a7d5 => kernel_rfl
      case a7s5 =>
        rintro L aa w h0 ⟨e4, _⟩ ⟨v54, v55, v56, v57, v58, v59, v60, v61, v62, v63, rfl, hO2, hN, hF⟩ K hK
        obtain rfl := (hF.2.2.2.2.1).out e4
        simp only [fr, List.foldl_cons, List.foldl_nil, Act.put, List.setIfInBounds_toArray, List.set_cons_zero, List.set_cons_succ]
        go_simp
        exact hK _ _ ⟨v54, v55, v56, v57, (Value.pointer (some ⟨g, 0, none⟩)), (Value.pointer (some ⟨g, 0, none⟩)), v60, v61, v62, v63, (by (simp only [fr, List.foldl_cons, List.foldl_nil, Act.put, List.setIfInBounds_toArray, List.set_cons_zero, List.set_cons_succ]); try rfl), hO2, hN, hF.1, hF.2.1, hF.2.2.1, hF.2.2.2.1, hF.2.2.2.2.1, Lib.hid (fun _ => rfl), hF.2.2.2.2.2.2.1, hF.2.2.2.2.2.2.2.1, hF.2.2.2.2.2.2.2.2.1, hF.2.2.2.2.2.2.2.2.2⟩
      refine Steps.plain (i := 6) (o := ?a7o6) [5] ?a7h6 ?a7g6 ?a7d6 ?a7s6 ?a7r6
      case a7h6 => (simp only [List.getElem?_toArray, List.getElem?_cons_succ, List.getElem?_cons_zero]; rfl)
      case a7g6 => rfl
      case a7d6 => kernel_rfl
      case a7s6 =>
        rintro L aa w h0 ⟨e5, _⟩ ⟨v54, v55, v56, v57, v58, v59, v60, v61, v62, v63, rfl, hO2, hN, hF⟩ K hK
        obtain rfl := (hF.2.2.2.2.2.1).out e5
        simp only [fr, List.foldl_cons, List.foldl_nil, Act.put, List.setIfInBounds_toArray, List.set_cons_zero, List.set_cons_succ]
        go_simp
        exact hK _ _ ⟨v54, v55, v56, v57, v58, (Value.pointer (some ⟨g, 0, none⟩)), (Value.pointer (some ⟨g, 0, none⟩)), v61, v62, v63, (by (simp only [fr, List.foldl_cons, List.foldl_nil, Act.put, List.setIfInBounds_toArray, List.set_cons_zero, List.set_cons_succ]); try rfl), hO2, hN, hF.1, hF.2.1, hF.2.2.1, hF.2.2.2.1, hF.2.2.2.2.1, hF.2.2.2.2.2.1, Lib.hid (fun _ => rfl), hF.2.2.2.2.2.2.2.1, hF.2.2.2.2.2.2.2.2.1, hF.2.2.2.2.2.2.2.2.2⟩
      refine Steps.plain (i := 7) (o := ?a7o7) [6] ?a7h7 ?a7g7 ?a7d7 ?a7s7 ?a7r7
      case a7h7 => (simp only [List.getElem?_toArray, List.getElem?_cons_succ, List.getElem?_cons_zero]; rfl)
      case a7g7 => rfl
      case a7d7 => kernel_rfl
      case a7s7 =>
        rintro L aa w h0 ⟨e6, _⟩ ⟨v54, v55, v56, v57, v58, v59, v60, v61, v62, v63, rfl, hO2, hN, hF⟩ K hK
        obtain rfl := (hF.2.2.2.2.2.2.1).out e6
        simp only [fr, List.foldl_cons, List.foldl_nil, Act.put, List.setIfInBounds_toArray, List.set_cons_zero, List.set_cons_succ]
        have x0 := only_cell hO2 zg0 (fun e => ng (.inr e))
        go_simp
        exact hK _ _ ⟨v54, v55, v56, v57, v58, v59, (Value.pointer (some ⟨g, 0, none⟩)), (Value.int .i64 q), v62, v63, (by (simp only [fr, List.foldl_cons, List.foldl_nil, Act.put, List.setIfInBounds_toArray, List.set_cons_zero, List.set_cons_succ]); try rfl), hO2, hN, hF.1, hF.2.1, hF.2.2.1, hF.2.2.2.1, hF.2.2.2.2.1, hF.2.2.2.2.2.1, hF.2.2.2.2.2.2.1, Lib.hid (fun _ => rfl), hF.2.2.2.2.2.2.2.2.1, hF.2.2.2.2.2.2.2.2.2⟩
      refine Steps.plain (i := 8) (o := ?a7o8) [7] ?a7h8 ?a7g8 ?a7d8 ?a7s8 ?a7r8
      case a7h8 => (simp only [List.getElem?_toArray, List.getElem?_cons_succ, List.getElem?_cons_zero]; rfl)
      case a7g8 => rfl
      case a7d8 => kernel_rfl
      case a7s8 =>
        rintro L aa w h0 ⟨e7, _⟩ ⟨v54, v55, v56, v57, v58, v59, v60, v61, v62, v63, rfl, hO2, hN, hF⟩ K hK
        obtain rfl := (hF.2.2.2.2.2.2.2.1).out e7
        simp only [fr, List.foldl_cons, List.foldl_nil, Act.put, List.setIfInBounds_toArray, List.set_cons_zero, List.set_cons_succ]
        go_simp
        exact hK _ _ ⟨v54, v55, v56, v57, v58, v59, v60, (Value.int .i64 q), (Value.agg #[.int .i64 q, .int .i64 0]), v63, (by (simp only [fr, List.foldl_cons, List.foldl_nil, Act.put, List.setIfInBounds_toArray, List.set_cons_zero, List.set_cons_succ]); try rfl), hO2, hN, hF.1, hF.2.1, hF.2.2.1, hF.2.2.2.1, hF.2.2.2.2.1, hF.2.2.2.2.2.1, hF.2.2.2.2.2.2.1, hF.2.2.2.2.2.2.2.1, Lib.hid (fun _ => rfl), hF.2.2.2.2.2.2.2.2.2⟩
      refine Steps.plain (i := 9) (o := ?a7o9) [] ?a7h9 ?a7g9 ?a7d9 ?a7s9 ?a7r9
      case a7h9 => (simp only [List.getElem?_toArray, List.getElem?_cons_succ, List.getElem?_cons_zero]; rfl)
      case a7g9 => rfl
      case a7d9 => kernel_rfl
      case a7s9 =>
        rintro L aa w h0 _ ⟨v54, v55, v56, v57, v58, v59, v60, v61, v62, v63, rfl, hO2, hN, hF⟩ K hK
        simp only [fr, List.foldl_cons, List.foldl_nil, Act.put, List.setIfInBounds_toArray, List.set_cons_zero, List.set_cons_succ]
        have x0 := only_cell hO2 zh nbh
        go_simp
        exact hK _ _ ⟨v54, v55, v56, v57, v58, v59, v60, v61, v62, (Value.int .u64 H), (by (simp only [fr, List.foldl_cons, List.foldl_nil, Act.put, List.setIfInBounds_toArray, List.set_cons_zero, List.set_cons_succ]); try rfl), hO2, hN, hF.1, hF.2.1, hF.2.2.1, hF.2.2.2.1, hF.2.2.2.2.1, hF.2.2.2.2.2.1, hF.2.2.2.2.2.2.1, hF.2.2.2.2.2.2.2.1, hF.2.2.2.2.2.2.2.2.1, Lib.hid (fun _ => rfl)⟩
      refine Steps.plain (i := 10) (o := ?a7o10) [3, 8, 9] ?a7h10 ?a7g10 ?a7d10 ?a7s10 ?a7r10
      case a7h10 => (simp only [List.getElem?_toArray, List.getElem?_cons_succ, List.getElem?_cons_zero]; rfl)
      case a7g10 => rfl
      case a7d10 => kernel_rfl
      case a7s10 =>
        rintro L aa w h0 ⟨e3, e8, e9, _⟩ ⟨v54, v55, v56, v57, v58, v59, v60, v61, v62, v63, rfl, hO2, hN, hF⟩ K hK
        obtain rfl := (hF.2.2.2.1).out e3
        obtain rfl := (hF.2.2.2.2.2.2.2.2.1).out e8
        obtain rfl := (hF.2.2.2.2.2.2.2.2.2).out e9
        simp only [fr, List.foldl_cons, List.foldl_nil, Act.put, List.setIfInBounds_toArray, List.set_cons_zero, List.set_cons_succ]
        refine step_storeU rfl (.tmp 57) (.tmp 62) (.tmp 63) rfl rfl (hN.out.1 h0) (by unfold maxLen; omega) rfl rfl HKI.out.1 HKI.out.2 ?_
        intro w3 m1 m2
        exact hK _ _ ⟨v54, v55, v56, (Value.map (some bn)), v58, v59, v60, v61, (Value.agg #[.int .i64 q, .int .i64 0]), (Value.int .u64 H), (by (simp only [fr, List.foldl_cons, List.foldl_nil, Act.put, List.setIfInBounds_toArray, List.set_cons_zero, List.set_cons_succ]); try rfl), hO2.trans m2, Lib.hid ⟨(fun h => by cases h), fun _ => m1⟩, hF.1, hF.2.1, hF.2.2.1, hF.2.2.2.1, hF.2.2.2.2.1, hF.2.2.2.2.2.1, hF.2.2.2.2.2.2.1, hF.2.2.2.2.2.2.2.1, hF.2.2.2.2.2.2.2.2.1, hF.2.2.2.2.2.2.2.2.2⟩
      exact Steps.nil
    case a7D =>
      rintro L aa w hL ⟨v54, v55, v56, v57, v58, v59, v60, v61, v62, v63, rfl, hO2, hN, hF⟩
      obtain rfl := (hF.1).out (hL 0 (by decide))
      obtain rfl := (hF.2.1).out (hL 1 (by decide))
      obtain rfl := (hF.2.2.1).out (hL 2 (by decide))
      obtain rfl := (hF.2.2.2.1).out (hL 3 (by decide))
      obtain rfl := (hF.2.2.2.2.1).out (hL 4 (by decide))
      obtain rfl := (hF.2.2.2.2.2.1).out (hL 5 (by decide))
      obtain rfl := (hF.2.2.2.2.2.2.1).out (hL 6 (by decide))
      obtain rfl := (hF.2.2.2.2.2.2.2.1).out (hL 7 (by decide))
      obtain rfl := (hF.2.2.2.2.2.2.2.2.1).out (hL 8 (by decide))
      obtain rfl := (hF.2.2.2.2.2.2.2.2.2).out (hL 9 (by decide))
      have l0 := hL 0 (by decide)
      have l1 := hL 1 (by decide)
      have l2 := hL 2 (by decide)
      have l3 := hL 3 (by decide)
      have l4 := hL 4 (by decide)
      have l5 := hL 5 (by decide)
      have l6 := hL 6 (by decide)
      have l7 := hL 7 (by decide)
      have l8 := hL 8 (by decide)
      have l9 := hL 9 (by decide)
      have l10 := hL 10 (by decide)
      clear hL
      simp only [fr, List.foldl_cons, List.foldl_nil, Act.put, List.setIfInBounds_toArray, List.set_cons_zero, List.set_cons_succ]
      have n10 := hN.out.2 l10
      have hK2 : w.heap[D]? = some (.deferred (some [])) := (hO2.heap hDs (by omega)).trans HK.out
      have fC := pC.out.only hO2 cn
      have fV := pV.out.only hO2 gn
      have fO := oW.out.trans (hO2.mono (fun k _ e => .inr e))
      clear hN hO2 zt zg0 zg2 zh
      gi_wp2
      refine ⟨by simp, .inl ⟨_, _, rfl, run_takeDeferred hK2, ?_⟩⟩
      refine ⟨_, results_tmp rfl _ _ _, rfl, ?_, only_putObj fO (by have h3 := HB0.out; omega) rfl⟩
      rw [HS.out]
      exact ⟨vr_putObj fV (by omega), MI.mono (fC.same (World.putObj_heap_other (by omega))) (by omega), MU.mono (n10.same (World.putObj_heap_other (by omega))) (by omega), gc, gn, cn⟩
end Go.Proofs.Ytgelhcgaacnjcaa
