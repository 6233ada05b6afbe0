/-
  WHAT IS PROVED HERE: the contract of package merkle's learn. No condition but that the partial tree lies in memory.
-/
import Derived.Test.YtgelhcgaacnjcaaMkW
import Derived.Test.YtgelhcgaacnjcaaMkH
namespace Go.Proofs.Ytgelhcgaacnjcaa
set_option linter.unusedVariables false
open Go.RowKit Go.Shelf

attribute [local go_sem] Oper.semAt_some

/-- what learn does to the nodes at one level -/
noncomputable def lrnStep (prf : List Int) (i : Nat) (s : (Lit → Option Int) × Int) (l : Nat) : (Lit → Option Int) × Int :=
  (putM (putM s.1 (plL l (i / 2 ^ l : Nat)) s.2) (plL l (sib (i / 2 ^ l) : Nat)) (prf.getD l 0), jn (i / 2 ^ l) s.2 (prf.getD l 0))
noncomputable def lrnRun (prf : List Int) (i : Nat) (s : (Lit → Option Int) × Int) (ls : List Nat) : (Lit → Option Int) × Int := ls.foldl (lrnStep prf i) s
theorem lrnRun_snoc (prf : List Int) (i : Nat) (s : (Lit → Option Int) × Int) (ls : List Nat) (l : Nat) : lrnRun prf i s (ls ++ [l]) = lrnStep prf i (lrnRun prf i s ls) l := by simp [lrnRun]
theorem ownFrom_mu {β : Type} (B bn : Nat) (hb : bn < B) (n : β → Nat) (f : β → Lit → Option Int) : OwnFrom B (fun s W => MU W bn (n s) (f s)) := by
  intro s W W' row hs hg hr
  refine MapV.kept hs hg fun e => ?_
  have := (hr bn e.symm).1
  omega
theorem mu_cell {w : World} {b n o : Nat} {M : Lit → Option Int} (h : MU w b n M) : w.cell? ⟨b, o, none⟩ = none := by
  obtain ⟨D, ⟨es, clock, h1, _⟩, _⟩ := h
  unfold World.cell?
  simp only [h1]
theorem mi_cell {w : World} {b n o : Nat} {M : Lit → Option Int} (h : MI w b n M) : w.cell? ⟨b, o, none⟩ = none := by
  obtain ⟨D, ⟨es, clock, h1, _⟩, _⟩ := h
  unfold World.cell?
  simp only [h1]
set_option maxHeartbeats 2000000 in
set_option maxRecDepth 100000 in
theorem learn_in (g bc bn q N : Nat) (C M : Lit → Option Int) (i : Nat) (v : Int) (A : Option Addr) (c : Nat) (prf : List Int) (W0 : World) (H : Par W0 g bc bn q N C M)
    (rd : Rd W0 W0.heap.size 1 A q (prf.map (Value.int .u64))) (hq : q ≤ 10) (hi : i ≤ 1000000) (hN : N ≤ 100000) :
    CallsIn Fence.wide 3 Try.prog 46 #[.pointer (some ⟨g, 0, none⟩), .agg #[.int .i64 (i : Int), .int .i64 v, .slice A q c]] W0 fun e w' => (∃ u, e = .returned u) ∧ Par w' g bc bn q (N + 1 + 2 * q) (putM C (kI i) v) (lrnRun prf i (M, leafI i v) (List.range q)).1 ∧ Only (fun k => k = bc ∨ k = bn) W0 w' := by
  have hll : prf.length = q := by have := rd.1; simpa using this
  have RD := Lib.hid rd
  have HH := Lib.hid H
  have hg := H.V.lt
  have hbc := H.C.lt
  have hbn := H.N.lt
  have gc := H.gc
  have gn := H.gn
  have cn := H.cn
  have HI := Lib.hid (show I64 (i : Int) from by unfold I64; omega)
  clear H rd
  refine callsIn_of_wp_marks Try.func46 rfl trivial ?_ rfl
  simp only [Try.ntmps46, List.size_toArray, List.length_cons, List.length_nil, Nat.reduceAdd, Nat.reduceSub, Array.replicate_succ, Array.replicate_zero, List.push_toArray, List.append_toArray, List.nil_append, List.cons_append]
  gi_wp2_with fail
  refine name_in ?_
  intro X hX
  obtain ⟨bt, hbt⟩ : ∃ b, W0.heap.size = b := ⟨_, rfl⟩
  have HB : Below W0.heap.size W0 X := by rw [hX]; (repeat (first | (with_reducible exact Below.refl _ _) | (with_reducible assumption) | (with_reducible refine b_drew ?_) | (with_reducible refine b_drewN ?_ _) | (with_reducible refine b_alloc ?_ _) | ((with_reducible refine b_set ?_ ?_ _); rotate_left; (focus (first | omega | (simp; done) | (simp; omega) | (simp at *; omega)))) | (with_reducible refine b_call ?_ (by with_reducible assumption))))
  have VT : Vr X bt 47 #[.pointer (some ⟨g, 0, none⟩)] := by rw [hX, ← hbt]; exact (Vr.new W0 _ _).alloc _
  have VL : Vr X (bt + 1) 25 #[.int .i64 i, .int .i64 v, .slice A q c] := by rw [hX, ← hbt]; exact vr_new2 W0 _ _ _
  have hXs : X.heap.size = bt + 1 + 1 := by rw [hX, ← hbt]; simp
  have HP := HH.out.call HB
  have VG := HP.V
  have VC := Lib.hid HP.C
  have VN := Lib.hid HP.N
  have RDX := Lib.hid (RD.out.below HB (Nat.le_refl _))
  have HOX := Lib.hid (Only.of_below HB (fun k => k = bc ∨ k = bn) (fun k h1 h2 => by omega))
  rw [hbt] at hg hbc hbn ⊢
  rw [hbt] at RDX
  have z0 : X.cell? ⟨bt, 0, none⟩ = some (.pointer (some ⟨g, 0, none⟩)) := VT.cell 0
  have z1 : X.cell? ⟨g, 1, none⟩ = some (.map (some bc)) := VG.cell 1
  have z2 : X.cell? ⟨bt + 1, 0, none⟩ = some (.int .i64 i) := VL.cell 0
  have z3 : X.cell? ⟨bt + 1, 1, none⟩ = some (.int .i64 v) := VL.cell 1
  have HVT := Lib.hid VT
  have HVL := Lib.hid VL
  have HVG := Lib.hid VG
  have ntc : ¬ bt = bc := by omega
  have nlc : ¬ bt + 1 = bc := by omega
  have HB0 := Lib.hid hbt
  clear hX HB RD HP VG VT VL hbt
  refine wpIn_wide.2 ?_
  refine wp_region_any (by kernel_rfl) ?_
  change wpAny _ _ _ _ _ _ _ (World.drew _)
  refine wpAny_go (fun A0 L aa w => ∃ (v7 v8 v9 v10 v11 v12 v13 v14 : Value), aa = fr A0 [(7, v7), (8, v8), (9, v9), (10, v10), (11, v11), (12, v12), (13, v13), (14, v14)] ∧ (Only (· = bc) X w) ∧ (Hid ((L 8 = false → MI w bc N C) ∧ (L 8 = true → MI w bc (N + 1) (putM C (kI i) v)))) ∧ Hid (L 0 = true → v7 = Value.pointer (some ⟨g, 0, none⟩)) ∧ Hid (L 1 = true → v8 = Value.pointer (some ⟨g, 0, none⟩)) ∧ Hid (L 2 = true → v9 = Value.pointer (some ⟨g, 1, none⟩)) ∧ Hid (L 3 = true → v10 = Value.map (some bc)) ∧ Hid (L 4 = true → v11 = Value.pointer (some ⟨bt + 1, 0, none⟩)) ∧ Hid (L 5 = true → v12 = Value.int .i64 i) ∧ Hid (L 6 = true → v13 = Value.pointer (some ⟨bt + 1, 1, none⟩)) ∧ Hid (L 7 = true → v14 = Value.int .i64 v)) [0, 1, 2, 3, 4, 5, 6, 7, 8] (by kernel_rfl) (by kernel_rfl) ?a5I ?a5S ?a5D
  case a5I =>
    refine ⟨?a5v7, ?a5v8, ?a5v9, ?a5v10, ?a5v11, ?a5v12, ?a5v13, ?a5v14, ?a5fr, (Only.refl _ _).drew, Lib.hid ⟨fun _ => VC.out.drew, no_yet (by kernel_rfl)⟩, Lib.hid (no_yet (by kernel_rfl)), Lib.hid (no_yet (by kernel_rfl)), Lib.hid (no_yet (by kernel_rfl)), Lib.hid (no_yet (by kernel_rfl)), Lib.hid (no_yet (by kernel_rfl)), Lib.hid (no_yet (by kernel_rfl)), Lib.hid (no_yet (by kernel_rfl)), Lib.hid (no_yet (by kernel_rfl))⟩
    case a5fr => (simp only [fr, List.foldl_cons, List.foldl_nil, Act.put, List.setIfInBounds_toArray, List.set_cons_zero, List.set_cons_succ]; rfl)
  case a5S =>
    refine Steps.plain (i := 0) (o := ?a5o0) [] ?a5h0 ?a5g0 ?a5d0 ?a5s0 ?a5r0
    case a5h0 => (simp only [List.getElem?_toArray, List.getElem?_cons_zero]; rfl)
    case a5g0 => rfl
    case a5d0 => kernel_rfl
    case a5s0 =>
      rintro L aa w h0 _ ⟨v7, v8, v9, v10, v11, v12, v13, v14, rfl, hO, hM, hF⟩ K hK
      simp only [fr, List.foldl_cons, List.foldl_nil, Act.put, List.setIfInBounds_toArray, List.set_cons_zero, List.set_cons_succ]
      have x := only_cell hO z0 ntc
      go_simp
      exact hK _ _ ⟨(Value.pointer (some ⟨g, 0, none⟩)), v8, v9, v10, v11, v12, v13, v14, (by (simp only [fr, List.foldl_cons, List.foldl_nil, Act.put, List.setIfInBounds_toArray, List.set_cons_zero, List.set_cons_succ]); try rfl), hO, hM, Lib.hid (fun _ => rfl), hF.2.1, hF.2.2.1, hF.2.2.2.1, hF.2.2.2.2.1, hF.2.2.2.2.2.1, hF.2.2.2.2.2.2.1, hF.2.2.2.2.2.2.2⟩
    refine Steps.plain (i := 1) (o := ?a5o1) [0] ?a5h1 ?a5g1 ?a5d1 ?a5s1 ?a5r1
    case a5h1 => (simp only [List.getElem?_toArray, List.getElem?_cons_succ, List.getElem?_cons_zero]; rfl)
    case a5g1 => rfl
    case a5d1 => kernel_rfl
    case a5s1 =>
      rintro L aa w h0 ⟨e0, _⟩ ⟨v7, v8, v9, v10, v11, v12, v13, v14, rfl, hO, hM, hF⟩ K hK
      obtain rfl := (hF.1).out e0
      simp only [fr, List.foldl_cons, List.foldl_nil, Act.put, List.setIfInBounds_toArray, List.set_cons_zero, List.set_cons_succ]
      go_simp
      exact hK _ _ ⟨(Value.pointer (some ⟨g, 0, none⟩)), (Value.pointer (some ⟨g, 0, none⟩)), v9, v10, v11, v12, v13, v14, (by (simp only [fr, List.foldl_cons, List.foldl_nil, Act.put, List.setIfInBounds_toArray, List.set_cons_zero, List.set_cons_succ]); try rfl), hO, hM, hF.1, Lib.hid (fun _ => rfl), hF.2.2.1, hF.2.2.2.1, hF.2.2.2.2.1, hF.2.2.2.2.2.1, hF.2.2.2.2.2.2.1, hF.2.2.2.2.2.2.2⟩
    refine Steps.plain (i := 2) (o := ?a5o2) [1] ?a5h2 ?a5g2 ?a5d2 ?a5s2 ?a5r2
    case a5h2 => (simp only [List.getElem?_toArray, List.getElem?_cons_succ, List.getElem?_cons_zero]; rfl)
    case a5g2 => rfl
    case a5d2 => kernel_rfl
    case a5s2 =>
      rintro L aa w h0 ⟨e1, _⟩ ⟨v7, v8, v9, v10, v11, v12, v13, v14, rfl, hO, hM, hF⟩ K hK
      obtain rfl := (hF.2.1).out e1
      simp only [fr, List.foldl_cons, List.foldl_nil, Act.put, List.setIfInBounds_toArray, List.set_cons_zero, List.set_cons_succ]
      go_simp
      exact hK _ _ ⟨v7, (Value.pointer (some ⟨g, 0, none⟩)), (Value.pointer (some ⟨g, 1, none⟩)), v10, v11, v12, v13, v14, (by (simp only [fr, List.foldl_cons, List.foldl_nil, Act.put, List.setIfInBounds_toArray, List.set_cons_zero, List.set_cons_succ]); try rfl), hO, hM, hF.1, hF.2.1, Lib.hid (fun _ => rfl), hF.2.2.2.1, hF.2.2.2.2.1, hF.2.2.2.2.2.1, hF.2.2.2.2.2.2.1, hF.2.2.2.2.2.2.2⟩
    refine Steps.plain (i := 3) (o := ?a5o3) [2] ?a5h3 ?a5g3 ?a5d3 ?a5s3 ?a5r3
    case a5h3 => (simp only [List.getElem?_toArray, List.getElem?_cons_succ, List.getElem?_cons_zero]; rfl)
    case a5g3 => rfl
    case a5d3 => kernel_rfl
    case a5s3 =>
      rintro L aa w h0 ⟨e2, _⟩ ⟨v7, v8, v9, v10, v11, v12, v13, v14, rfl, hO, hM, hF⟩ K hK
      obtain rfl := (hF.2.2.1).out e2
      simp only [fr, List.foldl_cons, List.foldl_nil, Act.put, List.setIfInBounds_toArray, List.set_cons_zero, List.set_cons_succ]
      have x := only_cell hO z1 gc
      go_simp
      exact hK _ _ ⟨v7, v8, (Value.pointer (some ⟨g, 1, none⟩)), (Value.map (some bc)), v11, v12, v13, v14, (by (simp only [fr, List.foldl_cons, List.foldl_nil, Act.put, List.setIfInBounds_toArray, List.set_cons_zero, List.set_cons_succ]); try rfl), hO, hM, hF.1, hF.2.1, hF.2.2.1, Lib.hid (fun _ => rfl), hF.2.2.2.2.1, hF.2.2.2.2.2.1, hF.2.2.2.2.2.2.1, hF.2.2.2.2.2.2.2⟩
    refine Steps.plain (i := 4) (o := ?a5o4) [] ?a5h4 ?a5g4 ?a5d4 ?a5s4 ?a5r4
    case a5h4 => (simp only [List.getElem?_toArray, List.getElem?_cons_succ, List.getElem?_cons_zero]; rfl)
    case a5g4 => rfl
    case a5d4 => kernel_rfl
    case a5s4 =>
      rintro L aa w h0 _ ⟨v7, v8, v9, v10, v11, v12, v13, v14, rfl, hO, hM, hF⟩ K hK
      simp only [fr, List.foldl_cons, List.foldl_nil, Act.put, List.setIfInBounds_toArray, List.set_cons_zero, List.set_cons_succ]
      go_simp
      exact hK _ _ ⟨v7, v8, v9, v10, (Value.pointer (some ⟨bt + 1, 0, none⟩)), v12, v13, v14, (by (simp only [fr, List.foldl_cons, List.foldl_nil, Act.put, List.setIfInBounds_toArray, List.set_cons_zero, List.set_cons_succ]); try rfl), hO, hM, hF.1, hF.2.1, hF.2.2.1, hF.2.2.2.1, Lib.hid (fun _ => rfl), hF.2.2.2.2.2.1, hF.2.2.2.2.2.2.1, hF.2.2.2.2.2.2.2⟩
    refine Steps.plain (i := 5) (o := ?a5o5) [4] ?a5h5 ?a5g5 ?a5d5 ?a5s5 ?a5r5
    case a5h5 => (simp only [List.getElem?_toArray, List.getElem?_cons_succ, List.getElem?_cons_zero]; rfl)
    case a5g5 => rfl
    case a5d5 => kernel_rfl
    case a5s5 =>
      rintro L aa w h0 ⟨e4, _⟩ ⟨v7, v8, v9, v10, v11, v12, v13, v14, rfl, hO, hM, hF⟩ K hK
      obtain rfl := (hF.2.2.2.2.1).out e4
      simp only [fr, List.foldl_cons, List.foldl_nil, Act.put, List.setIfInBounds_toArray, List.set_cons_zero, List.set_cons_succ]
      have x := only_cell hO z2 nlc
      go_simp
      exact hK _ _ ⟨v7, v8, v9, v10, (Value.pointer (some ⟨bt + 1, 0, none⟩)), (Value.int .i64 i), v13, v14, (by (simp only [fr, List.foldl_cons, List.foldl_nil, Act.put, List.setIfInBounds_toArray, List.set_cons_zero, List.set_cons_succ]); try rfl), hO, hM, hF.1, hF.2.1, hF.2.2.1, hF.2.2.2.1, hF.2.2.2.2.1, Lib.hid (fun _ => rfl), hF.2.2.2.2.2.2.1, hF.2.2.2.2.2.2.2⟩
    refine Steps.plain (i := 6) (o := ?a5o6) [] ?a5h6 ?a5g6 ?a5d6 ?a5s6 ?a5r6
    case a5h6 => (simp only [List.getElem?_toArray, List.getElem?_cons_succ, List.getElem?_cons_zero]; rfl)
    case a5g6 => rfl
    case a5d6 => kernel_rfl
    case a5s6 =>
      rintro L aa w h0 _ ⟨v7, v8, v9, v10, v11, v12, v13, v14, rfl, hO, hM, hF⟩ K hK
      simp only [fr, List.foldl_cons, List.foldl_nil, Act.put, List.setIfInBounds_toArray, List.set_cons_zero, List.set_cons_succ]
      go_simp
      exact hK _ _ ⟨v7, v8, v9, v10, v11, v12, (Value.pointer (some ⟨bt + 1, 1, none⟩)), v14, (by (simp only [fr, List.foldl_cons, List.foldl_nil, Act.put, List.setIfInBounds_toArray, List.set_cons_zero, List.set_cons_succ]); try rfl), hO, hM, hF.1, hF.2.1, hF.2.2.1, hF.2.2.2.1, hF.2.2.2.2.1, hF.2.2.2.2.2.1, Lib.hid (fun _ => rfl), hF.2.2.2.2.2.2.2⟩
    refine Steps.plain (i := 7) (o := ?a5o7) [6] ?a5h7 ?a5g7 ?a5d7 ?a5s7 ?a5r7
    case a5h7 => (simp only [List.getElem?_toArray, List.getElem?_cons_succ, List.getElem?_cons_zero]; rfl)
    case a5g7 => rfl
    case a5d7 => kernel_rfl
    case a5s7 =>
      rintro L aa w h0 ⟨e6, _⟩ ⟨v7, v8, v9, v10, v11, v12, v13, v14, rfl, hO, hM, hF⟩ K hK
      obtain rfl := (hF.2.2.2.2.2.2.1).out e6
      simp only [fr, List.foldl_cons, List.foldl_nil, Act.put, List.setIfInBounds_toArray, List.set_cons_zero, List.set_cons_succ]
      have x := only_cell hO z3 nlc
      go_simp
      exact hK _ _ ⟨v7, v8, v9, v10, v11, v12, (Value.pointer (some ⟨bt + 1, 1, none⟩)), (Value.int .i64 v), (by (simp only [fr, List.foldl_cons, List.foldl_nil, Act.put, List.setIfInBounds_toArray, List.set_cons_zero, List.set_cons_succ]); try rfl), hO, hM, hF.1, hF.2.1, hF.2.2.1, hF.2.2.2.1, hF.2.2.2.2.1, hF.2.2.2.2.2.1, hF.2.2.2.2.2.2.1, Lib.hid (fun _ => rfl)⟩
    refine Steps.plain (i := 8) (o := ?a5o8) [3, 5, 7] ?a5h8 ?a5g8 ?a5d8 ?a5s8 ?a5r8
    case a5h8 => (simp only [List.getElem?_toArray, List.getElem?_cons_succ, List.getElem?_cons_zero]; rfl)
    case a5g8 => rfl
    case a5d8 => kernel_rfl
    case a5s8 =>
      rintro L aa w h0 ⟨e3, e5, e7, _⟩ ⟨v7, v8, v9, v10, v11, v12, v13, v14, rfl, hO, hM, hF⟩ K hK
      obtain rfl := (hF.2.2.2.1).out e3
      obtain rfl := (hF.2.2.2.2.2.1).out e5
      obtain rfl := (hF.2.2.2.2.2.2.2).out e7
      simp only [fr, List.foldl_cons, List.foldl_nil, Act.put, List.setIfInBounds_toArray, List.set_cons_zero, List.set_cons_succ]
      refine step_storeI rfl (.tmp 10) (.tmp 12) (.tmp 14) rfl rfl (hM.out.1 h0) (by unfold maxLen; omega) rfl rfl HI.out ?_
      intro w3 m1 m2
      exact hK _ _ ⟨v7, v8, v9, (Value.map (some bc)), v11, (Value.int .i64 i), v13, (Value.int .i64 v), (by (simp only [fr, List.foldl_cons, List.foldl_nil, Act.put, List.setIfInBounds_toArray, List.set_cons_zero, List.set_cons_succ]); try rfl), hO.trans m2, Lib.hid ⟨(fun h => by cases h), fun _ => m1⟩, hF.1, hF.2.1, hF.2.2.1, hF.2.2.2.1, hF.2.2.2.2.1, hF.2.2.2.2.2.1, hF.2.2.2.2.2.2.1, hF.2.2.2.2.2.2.2⟩
    exact Steps.nil
  case a5D =>
    rintro L aa w hL ⟨v7, v8, v9, v10, v11, v12, v13, v14, rfl, hO, hM, hF⟩
    obtain rfl := (hF.1).out (hL 0 (by decide))
    obtain rfl := (hF.2.1).out (hL 1 (by decide))
    obtain rfl := (hF.2.2.1).out (hL 2 (by decide))
    obtain rfl := (hF.2.2.2.1).out (hL 3 (by decide))
    obtain rfl := (hF.2.2.2.2.1).out (hL 4 (by decide))
    obtain rfl := (hF.2.2.2.2.2.1).out (hL 5 (by decide))
    obtain rfl := (hF.2.2.2.2.2.2.1).out (hL 6 (by decide))
    obtain rfl := (hF.2.2.2.2.2.2.2).out (hL 7 (by decide))
    have l0 := hL 0 (by decide)
    have l1 := hL 1 (by decide)
    have l2 := hL 2 (by decide)
    have l3 := hL 3 (by decide)
    have l4 := hL 4 (by decide)
    have l5 := hL 5 (by decide)
    have l6 := hL 6 (by decide)
    have l7 := hL 7 (by decide)
    have l8 := hL 8 (by decide)
    clear hL
    simp only [fr, List.foldl_cons, List.foldl_nil, Act.put, List.setIfInBounds_toArray, List.set_cons_zero, List.set_cons_succ]
    have HC1 := Lib.hid (hM.out.2 l8)
    obtain ⟨X1, rfl⟩ : ∃ X1 : World, X1 = w := ⟨_, rfl⟩
    have HO1 := Lib.hid hO
    have y0 := only_cell hO z0 ntc
    have y2 := only_cell hO z2 nlc
    have y3 := only_cell hO z3 nlc
    have hs1 := hO.size
    clear hM hO
    gi_wp2_with fail
    refine ⟨trivial, (callsIn_wide.2 (leafHash_any (i : Int) v _)).mono ?_⟩
    rintro e w2 ⟨rfl, hb2⟩
    have HVT2 := Lib.hid ((HVT.out.only HO1.out ntc).call hb2)
    have HVL2 := Lib.hid ((HVL.out.only HO1.out nlc).call hb2)
    have HVG2 := Lib.hid ((HVG.out.only HO1.out gc).call hb2)
    have HC2 := Lib.hid (HC1.out.call hb2)
    have HN2 := Lib.hid ((VN.out.only HO1.out (fun e => cn e.symm)).call hb2)
    have HO2 := Lib.hid (o_below HO1.out hb2)
    have hs2 := hb2.size
    clear hb2 y0 y2 y3 HC1 HO1
    gi_wp2_with fail
    refine name_in ?_
    intro Y hY
    obtain ⟨bh, hbh⟩ : ∃ b, w2.heap.size = b := ⟨_, rfl⟩
    have HBY : Below w2.heap.size w2 Y := by rw [hY]; (repeat (first | (with_reducible exact Below.refl _ _) | (with_reducible assumption) | (with_reducible refine b_drew ?_) | (with_reducible refine b_drewN ?_ _) | (with_reducible refine b_alloc ?_ _) | ((with_reducible refine b_set ?_ ?_ _); rotate_left; (focus (first | omega | (simp; done) | (simp; omega) | (simp at *; omega)))) | (with_reducible refine b_call ?_ (by with_reducible assumption))))
    have HVT3 := Lib.hid (HVT2.out.call HBY)
    have HVL3 := Lib.hid (HVL2.out.call HBY)
    have HVG3 := Lib.hid (HVG2.out.call HBY)
    have HC3 := Lib.hid (HC2.out.call HBY)
    have HN3 := Lib.hid (HN2.out.call HBY)
    have HO3 := Lib.hid (o_below HO2.out HBY)
    have HVH := Lib.hid (show Vr Y bh 22 #[.int .u64 (leafI i v)] from by rw [hY, ← hbh]; exact Vr.new w2 _ _)
    have hYs : Y.heap.size = bh + 1 := by rw [hY, ← hbh]; simp
    have HYs := Lib.hid hYs
    rw [hbh] at hs2 ⊢
    have y0 : Y.cell? ⟨bt, 0, none⟩ = some (.pointer (some ⟨g, 0, none⟩)) := HVT3.out.cell 0
    have y1 : Y.cell? ⟨g, 0, none⟩ = some (.int .i64 q) := HVG3.out.cell 0
    have y2 : Y.cell? ⟨bt + 1, 0, none⟩ = some (.int .i64 i) := HVL3.out.cell 0
    clear hY hbh HBY HVT2 HVL2 HVG2 HC2 HN2 HO2
    refine wpIn_wide.2 ?_
    refine wp_region_any (by kernel_rfl) ?_
    change wpAny _ _ _ _ _ _ _ (World.drew _)
    refine wpAny_go (fun A0 L aa w => ∃ (v20 v21 v22 v23 v24 v25 v26 : Value), aa = fr A0 [(20, v20), (21, v21), (22, v22), (23, v23), (24, v24), (25, v25), (26, v26)] ∧ (Only (fun _ => False) Y w) ∧ (Hid (L 6 = false → w.heap.size = bh + 1)) ∧ (Hid (L 6 = true → Vr w (bh + 1) 3 #[.int .i64 i] ∧ Vr w (bh + 1 + 1) 3 #[.int .i64 q] ∧ w.heap.size = bh + 1 + 1 + 1)) ∧ Hid (L 0 = true → v20 = Value.pointer (some ⟨bt + 1, 0, none⟩)) ∧ Hid (L 1 = true → v21 = Value.int .i64 i) ∧ Hid (L 2 = true → v22 = Value.pointer (some ⟨g, 0, none⟩)) ∧ Hid (L 3 = true → v23 = Value.pointer (some ⟨g, 0, none⟩)) ∧ Hid (L 4 = true → v24 = Value.pointer (some ⟨g, 0, none⟩)) ∧ Hid (L 5 = true → v25 = Value.int .i64 q) ∧ Hid (L 6 = true → v26 = Value.func (.func 49) #[] #[.pointer (some ⟨bh + 1 + 1, 0, none⟩), .pointer (some ⟨bh + 1, 0, none⟩)])) [0, 1, 2, 3, 4, 5, 6] (by kernel_rfl) (by kernel_rfl) ?a4I ?a4S ?a4D
    case a4I =>
      refine ⟨?a4v20, ?a4v21, ?a4v22, ?a4v23, ?a4v24, ?a4v25, ?a4v26, ?a4fr, (Only.refl _ _).drew, Lib.hid (fun _ => HYs.out), Lib.hid (no_yet (by kernel_rfl)), Lib.hid (no_yet (by kernel_rfl)), Lib.hid (no_yet (by kernel_rfl)), Lib.hid (no_yet (by kernel_rfl)), Lib.hid (no_yet (by kernel_rfl)), Lib.hid (no_yet (by kernel_rfl)), Lib.hid (no_yet (by kernel_rfl)), Lib.hid (no_yet (by kernel_rfl))⟩
      case a4fr => (simp only [fr, List.foldl_cons, List.foldl_nil, Act.put, List.setIfInBounds_toArray, List.set_cons_zero, List.set_cons_succ]; rfl)
    case a4S =>
      refine Steps.plain (i := 0) (o := ?a4o0) [] ?a4h0 ?a4g0 ?a4d0 ?a4s0 ?a4r0
      case a4h0 => (simp only [List.getElem?_toArray, List.getElem?_cons_zero]; rfl)
      case a4g0 => rfl
      case a4d0 => kernel_rfl
      case a4s0 =>
        rintro L aa w h0 _ ⟨v20, v21, v22, v23, v24, v25, v26, rfl, hO, hS, hP, hF⟩ K hK
        simp only [fr, List.foldl_cons, List.foldl_nil, Act.put, List.setIfInBounds_toArray, List.set_cons_zero, List.set_cons_succ]
        go_simp
        exact hK _ _ ⟨(Value.pointer (some ⟨bt + 1, 0, none⟩)), v21, v22, v23, v24, v25, v26, (by (simp only [fr, List.foldl_cons, List.foldl_nil, Act.put, List.setIfInBounds_toArray, List.set_cons_zero, List.set_cons_succ]); try rfl), hO, hS, hP, Lib.hid (fun _ => rfl), hF.2.1, hF.2.2.1, hF.2.2.2.1, hF.2.2.2.2.1, hF.2.2.2.2.2.1, hF.2.2.2.2.2.2⟩
      refine Steps.plain (i := 1) (o := ?a4o1) [0] ?a4h1 ?a4g1 ?a4d1 ?a4s1 ?a4r1
      case a4h1 => (simp only [List.getElem?_toArray, List.getElem?_cons_succ, List.getElem?_cons_zero]; rfl)
      case a4g1 => rfl
      case a4d1 => kernel_rfl
      case a4s1 =>
        rintro L aa w h0 ⟨e0, _⟩ ⟨v20, v21, v22, v23, v24, v25, v26, rfl, hO, hS, hP, hF⟩ K hK
        obtain rfl := (hF.1).out e0
        simp only [fr, List.foldl_cons, List.foldl_nil, Act.put, List.setIfInBounds_toArray, List.set_cons_zero, List.set_cons_succ]
        have x := only_cell hO y2 (fun h => h)
        go_simp
        exact hK _ _ ⟨(Value.pointer (some ⟨bt + 1, 0, none⟩)), (Value.int .i64 i), v22, v23, v24, v25, v26, (by (simp only [fr, List.foldl_cons, List.foldl_nil, Act.put, List.setIfInBounds_toArray, List.set_cons_zero, List.set_cons_succ]); try rfl), hO, hS, hP, hF.1, Lib.hid (fun _ => rfl), hF.2.2.1, hF.2.2.2.1, hF.2.2.2.2.1, hF.2.2.2.2.2.1, hF.2.2.2.2.2.2⟩
      refine Steps.plain (i := 2) (o := ?a4o2) [] ?a4h2 ?a4g2 ?a4d2 ?a4s2 ?a4r2
      case a4h2 => (simp only [List.getElem?_toArray, List.getElem?_cons_succ, List.getElem?_cons_zero]; rfl)
      case a4g2 => rfl
      case a4d2 => kernel_rfl
      case a4s2 =>
        rintro L aa w h0 _ ⟨v20, v21, v22, v23, v24, v25, v26, rfl, hO, hS, hP, hF⟩ K hK
        simp only [fr, List.foldl_cons, List.foldl_nil, Act.put, List.setIfInBounds_toArray, List.set_cons_zero, List.set_cons_succ]
        have x := only_cell hO y0 (fun h => h)
        go_simp
        exact hK _ _ ⟨v20, v21, (Value.pointer (some ⟨g, 0, none⟩)), v23, v24, v25, v26, (by (simp only [fr, List.foldl_cons, List.foldl_nil, Act.put, List.setIfInBounds_toArray, List.set_cons_zero, List.set_cons_succ]); try rfl), hO, hS, hP, hF.1, hF.2.1, Lib.hid (fun _ => rfl), hF.2.2.2.1, hF.2.2.2.2.1, hF.2.2.2.2.2.1, hF.2.2.2.2.2.2⟩
      refine Steps.plain (i := 3) (o := ?a4o3) [2] ?a4h3 ?a4g3 ?a4d3 ?a4s3 ?a4r3
      case a4h3 => (simp only [List.getElem?_toArray, List.getElem?_cons_succ, List.getElem?_cons_zero]; rfl)
      case a4g3 => rfl
      case a4d3 => kernel_rfl
      case a4s3 =>
        rintro L aa w h0 ⟨e2, _⟩ ⟨v20, v21, v22, v23, v24, v25, v26, rfl, hO, hS, hP, hF⟩ K hK
        obtain rfl := (hF.2.2.1).out e2
        simp only [fr, List.foldl_cons, List.foldl_nil, Act.put, List.setIfInBounds_toArray, List.set_cons_zero, List.set_cons_succ]
        go_simp
        exact hK _ _ ⟨v20, v21, (Value.pointer (some ⟨g, 0, none⟩)), (Value.pointer (some ⟨g, 0, none⟩)), v24, v25, v26, (by (simp only [fr, List.foldl_cons, List.foldl_nil, Act.put, List.setIfInBounds_toArray, List.set_cons_zero, List.set_cons_succ]); try rfl), hO, hS, hP, hF.1, hF.2.1, hF.2.2.1, Lib.hid (fun _ => rfl), hF.2.2.2.2.1, hF.2.2.2.2.2.1, hF.2.2.2.2.2.2⟩
      refine Steps.plain (i := 4) (o := ?a4o4) [3] ?a4h4 ?a4g4 ?a4d4 ?a4s4 ?a4r4
      case a4h4 => (simp only [List.getElem?_toArray, List.getElem?_cons_succ, List.getElem?_cons_zero]; rfl)
      case a4g4 => rfl
      case a4d4 => kernel_rfl
      case a4s4 =>
        rintro L aa w h0 ⟨e3, _⟩ ⟨v20, v21, v22, v23, v24, v25, v26, rfl, hO, hS, hP, hF⟩ K hK
        obtain rfl := (hF.2.2.2.1).out e3
        simp only [fr, List.foldl_cons, List.foldl_nil, Act.put, List.setIfInBounds_toArray, List.set_cons_zero, List.set_cons_succ]
        go_simp
        exact hK _ _ ⟨v20, v21, v22, (Value.pointer (some ⟨g, 0, none⟩)), (Value.pointer (some ⟨g, 0, none⟩)), v25, v26, (by (simp only [fr, List.foldl_cons, List.foldl_nil, Act.put, List.setIfInBounds_toArray, List.set_cons_zero, List.set_cons_succ]); try rfl), hO, hS, hP, hF.1, hF.2.1, hF.2.2.1, hF.2.2.2.1, Lib.hid (fun _ => rfl), hF.2.2.2.2.2.1, hF.2.2.2.2.2.2⟩
      refine Steps.plain (i := 5) (o := ?a4o5) [4] ?a4h5 ?a4g5 ?a4d5 ?a4s5 ?a4r5
      case a4h5 => (simp only [List.getElem?_toArray, List.getElem?_cons_succ, List.getElem?_cons_zero]; rfl)
      case a4g5 => rfl
      case a4d5 => kernel_rfl
      case a4s5 =>
        rintro L aa w h0 ⟨e4, _⟩ ⟨v20, v21, v22, v23, v24, v25, v26, rfl, hO, hS, hP, hF⟩ K hK
        obtain rfl := (hF.2.2.2.2.1).out e4
        simp only [fr, List.foldl_cons, List.foldl_nil, Act.put, List.setIfInBounds_toArray, List.set_cons_zero, List.set_cons_succ]
        have x := only_cell hO y1 (fun h => h)
        go_simp
        exact hK _ _ ⟨v20, v21, v22, v23, (Value.pointer (some ⟨g, 0, none⟩)), (Value.int .i64 q), v26, (by (simp only [fr, List.foldl_cons, List.foldl_nil, Act.put, List.setIfInBounds_toArray, List.set_cons_zero, List.set_cons_succ]); try rfl), hO, hS, hP, hF.1, hF.2.1, hF.2.2.1, hF.2.2.2.1, hF.2.2.2.2.1, Lib.hid (fun _ => rfl), hF.2.2.2.2.2.2⟩
      refine Steps.plain (i := 6) (o := ?a4o6) [1, 5] ?a4h6 ?a4g6 ?a4d6 ?a4s6 ?a4r6
      case a4h6 => (simp only [List.getElem?_toArray, List.getElem?_cons_succ, List.getElem?_cons_zero]; rfl)
      case a4g6 => rfl
      case a4d6 => kernel_rfl
      case a4s6 =>
        rintro L aa w h0 ⟨e1, e5, _⟩ ⟨v20, v21, v22, v23, v24, v25, v26, rfl, hO, hS, hP, hF⟩ K hK
        obtain rfl := (hF.2.1).out e1
        obtain rfl := (hF.2.2.2.2.2.1).out e5
        simp only [fr, List.foldl_cons, List.foldl_nil, Act.put, List.setIfInBounds_toArray, List.set_cons_zero, List.set_cons_succ]
        go_simp
        refine (callsIn_wide.1 (path_make Fence.wide 3 trivial rfl i q _)).mono ?_
        rintro e w3 ⟨rfl, rfl⟩
        have hsw := hS.out h0
        have u1 := (Vr.new w 3 #[.int .i64 i]).alloc (.cells #[.int .i64 q] 3)
        have u2 := vr_new2 w (.cells #[.int .i64 i] 3) 3 #[.int .i64 q]
        rw [hsw] at u1 u2 ⊢
        exact hK _ _ ⟨v20, (Value.int .i64 i), v22, v23, v24, (Value.int .i64 q), (Value.func (.func 49) #[] #[.pointer (some ⟨bh + 1 + 1, 0, none⟩), .pointer (some ⟨bh + 1, 0, none⟩)]), (by (simp only [fr, List.foldl_cons, List.foldl_nil, Act.put, List.setIfInBounds_toArray, List.set_cons_zero, List.set_cons_succ]); try rfl), (hO.alloc _).alloc _, Lib.hid (fun h => by cases h), Lib.hid (fun _ => ⟨u1, u2, by simp [hsw]⟩), hF.1, hF.2.1, hF.2.2.1, hF.2.2.2.1, hF.2.2.2.2.1, hF.2.2.2.2.2.1, Lib.hid (fun _ => rfl)⟩
      exact Steps.nil
    case a4D =>
      rintro L aa w hL ⟨v20, v21, v22, v23, v24, v25, v26, rfl, hO, hS, hP, hF⟩
      obtain rfl := (hF.1).out (hL 0 (by decide))
      obtain rfl := (hF.2.1).out (hL 1 (by decide))
      obtain rfl := (hF.2.2.1).out (hL 2 (by decide))
      obtain rfl := (hF.2.2.2.1).out (hL 3 (by decide))
      obtain rfl := (hF.2.2.2.2.1).out (hL 4 (by decide))
      obtain rfl := (hF.2.2.2.2.2.1).out (hL 5 (by decide))
      obtain rfl := (hF.2.2.2.2.2.2).out (hL 6 (by decide))
      have l0 := hL 0 (by decide)
      have l1 := hL 1 (by decide)
      have l2 := hL 2 (by decide)
      have l3 := hL 3 (by decide)
      have l4 := hL 4 (by decide)
      have l5 := hL 5 (by decide)
      have l6 := hL 6 (by decide)
      clear hL
      simp only [fr, List.foldl_cons, List.foldl_nil, Act.put, List.setIfInBounds_toArray, List.set_cons_zero, List.set_cons_succ]
      obtain ⟨VI, VQ, hZs⟩ := hP.out l6
      obtain ⟨Z, rfl⟩ : ∃ Z : World, Z = w := ⟨_, rfl⟩
      have HVT4 := Lib.hid (HVT3.out.only hO (fun h => h))
      have HVL4 := Lib.hid (HVL3.out.only hO (fun h => h))
      have HVG4 := Lib.hid (HVG3.out.only hO (fun h => h))
      have HC4 := Lib.hid (HC3.out.only hO (fun h => h))
      have HN4 := Lib.hid (HN3.out.only hO (fun h => h))
      have HVH4 := Lib.hid (HVH.out.only hO (fun h => h))
      have HO4 := Lib.hid (HO3.out.trans (hO.mono (fun k _ h => h.elim)))
      have HZs := Lib.hid hZs
      clear hO hS hP y0 y1 y2 HVT3 HVL3 HVG3 HC3 HN3 HO3 HVH HYs hYs
      gi_wp2_with fail
      refine wp_rf (w := Z) (T := 64) (sl := 5) rfl (enters_of Try.func49 (by kernel_rfl) rfl) (path_stops Fence.wide 2 trivial rfl (by omega) (bh + 1 + 1) (bh + 1) i q (by omega) (by omega) Z VQ.lt VI.lt (VQ.cell 0) (VI.cell 0)) VQ.lt VI.lt
        (fun pre W => Only (fun k => k = bh ∨ k = bn) Z W ∧ Vr W bh 22 #[.int .u64 (lrnRun prf i (M, leafI i v) (lvs pre)).2] ∧ MU W bn (N + 2 * pre.length) (lrnRun prf i (M, leafI i v) (lvs pre)).1)
        ((ownFrom_only (Nat.le_refl _)).and ((ownFrom_vr _ _ _ (fun pre => #[.int .u64 (lrnRun prf i (M, leafI i v) (lvs pre)).2])).and (ownFrom_mu _ _ (by omega) (fun pre => N + 2 * pre.length) (fun pre => (lrnRun prf i (M, leafI i v) (lvs pre)).1)))) ⟨Only.refl _ _, HVH4.out, HN4.out⟩ (fun _ _ h => h.1.size) (fun x => #[.int .i64 (x.1 : Nat), .int .i64 ((i / 2 ^ x.1 : Nat) : Int)]) ?assign ?body ?done
      case assign =>
        intro l x W K hK
        unfold plv at hK ⊢
        gi_wp2
        exact hK
      case body =>
        rintro l pre x gb W hgb ⟨hO, hVH, hMU⟩ hVg hlen
        unfold plv
        simp only [List.setIfInBounds_toArray, List.set_cons_zero, List.set_cons_succ]
        have hx : x.1 < q := x.2
        obtain ⟨b, o, hl, rfl, hb, hcell⟩ := RDX.out.openMap hx
        have nb1 : b ≠ bc := fun e => by rw [e, mi_cell VC.out] at hcell; cases hcell
        have nb2 : b ≠ bn := fun e => by rw [e, mu_cell VN.out] at hcell; cases hcell
        have hsz := hO.size
        have hzs := HZs.out
        have nbt : ¬ (bt = bh ∨ bt = bn) := by omega
        have nbl : ¬ (bt + 1 = bh ∨ bt + 1 = bn) := by omega
        have ng : ¬ (g = bh ∨ g = bn) := by omega
        have ngb : ¬ (gb = bh ∨ gb = bn) := by omega
        have nb : ¬ (b = bh ∨ b = bn) := by omega
        have nbh : ¬ bh = bn := by omega
        have HPH := Lib.hid (lrnRun_snoc prf i (M, leafI i v) (lvs pre) x.1)
        rw [← lvs_snoc] at HPH
        have HPG := Lib.hid (show prf.getD x.1 0 = prf[x.1] from by simp [List.getD, hl])
        obtain ⟨⟨Mx, H⟩, hS⟩ : ∃ S, lrnRun prf i (M, leafI i v) (lvs pre) = S := ⟨_, rfl⟩
        rw [hS] at hVH hMU HPH
        obtain ⟨lv, hlv⟩ : ∃ y : Nat, x.1 = y := ⟨_, rfl⟩
        obtain ⟨k, hk⟩ : ∃ y : Nat, i / 2 ^ lv = y := ⟨_, rfl⟩
        obtain ⟨s, hs⟩ : ∃ y : Nat, sib k = y := ⟨_, rfl⟩
        obtain ⟨p, hp⟩ : ∃ y, prf[x.1] = y := ⟨_, rfl⟩
        obtain ⟨m, hm⟩ : ∃ y, N + 2 * pre.length = y := ⟨_, rfl⟩
        have hk9 : k ≤ 1000000000 := by
          have := Nat.div_le_self i (2 ^ lv)
          omega
        have hs9 : s ≤ 1000000001 := by
          rw [← hs]
          unfold sib
          split <;> omega
        have hm9 : m ≤ 1000000 := by omega
        rw [hp] at hcell HPG
        unfold lrnStep at HPH
        simp only at HPH
        rw [HPG.out, hlv, hk, hs] at HPH
        rw [hm] at hMU
        have HM := Lib.hid hm
        have HSB := Lib.hid hs
        have HKI := Lib.hid (show I64 (lv : Int) ∧ I64 (k : Int) ∧ I64 (s : Int) from by unfold I64; omega)
        have hidx : (0 : Int) ≤ (lv : Int) ∧ (lv : Int) < (q : Int) := by omega
        obtain ⟨j1, j2⟩ := hidx
        obtain ⟨U, rfl⟩ : ∃ U : World, U = W := ⟨_, rfl⟩
        have zc : U.cell? ⟨b, o + lv, none⟩ = some (.int .u64 p) := by rw [← hlv]; exact only_cell hO (only_cell HO4.out hcell nb1) nb
        have zp0 : U.cell? ⟨gb, 0, none⟩ = some (.int .i64 lv) := by rw [← hlv]; exact hVg.cell 0
        have zp1 : U.cell? ⟨gb, 1, none⟩ = some (.int .i64 k) := by rw [← hk, ← hlv]; exact hVg.cell 1
        have zl : U.cell? ⟨bt + 1, 2, none⟩ = some (.slice (some ⟨b, o, none⟩) q c) := only_cell hO (HVL4.out.cell 2) nbl
        have zt : U.cell? ⟨bt, 0, none⟩ = some (.pointer (some ⟨g, 0, none⟩)) := only_cell hO (HVT4.out.cell 0) nbt
        have zg : U.cell? ⟨g, 2, none⟩ = some (.map (some bn)) := only_cell hO (HVG4.out.cell 2) ng
        have zh : U.cell? ⟨bh, 0, none⟩ = some (.int .u64 H) := hVH.cell 0
        have HHO := Lib.hid hO
        have HHH := Lib.hid hVH
        have HHN := Lib.hid hMU
        rw [hlv, hk]
        have e1 : bn < U.heap.size := hMU.lt
        have e2 : gb < U.heap.size := hVg.lt
        clear hS hlv hk hs hp hm hO hVH hMU hVg hcell HPG hl
        gi_wp2
        refine region_in (by kernel_rfl) (by kernel_rfl) ?_
        refine wpAny_go (fun A0 L aa w => ∃ (v34 v35 v36 v37 v38 v39 : Value), aa = fr A0 [(34, v34), (35, v35), (36, v36), (37, v37), (38, v38), (39, v39)] ∧ (Only (· = bn) U w) ∧ (Hid ((L 6 = false → MU w bn m Mx) ∧ (L 6 = true → MU w bn (m + 1) (putM Mx (plL lv k) H)))) ∧ Hid (L 0 = true → v34 = Value.pointer (some ⟨g, 0, none⟩)) ∧ Hid (L 1 = true → v35 = Value.pointer (some ⟨g, 0, none⟩)) ∧ Hid (L 2 = true → v36 = Value.pointer (some ⟨g, 2, none⟩)) ∧ Hid (L 3 = true → v37 = Value.map (some bn)) ∧ Hid (L 4 = true → v38 = Value.agg #[.int .i64 lv, .int .i64 k]) ∧ Hid (L 5 = true → v39 = Value.int .u64 H)) [0, 1, 2, 3, 4, 5, 6] (by kernel_rfl) (by kernel_rfl) ?a3I ?a3S ?a3D
        case a3I =>
          refine ⟨?a3v34, ?a3v35, ?a3v36, ?a3v37, ?a3v38, ?a3v39, ?a3fr, (Only.refl _ _).drew, Lib.hid ⟨fun _ => HHN.out.drew, no_yet (by kernel_rfl)⟩, Lib.hid (no_yet (by kernel_rfl)), Lib.hid (no_yet (by kernel_rfl)), Lib.hid (no_yet (by kernel_rfl)), Lib.hid (no_yet (by kernel_rfl)), Lib.hid (no_yet (by kernel_rfl)), Lib.hid (no_yet (by kernel_rfl))⟩
          case a3fr => (simp only [fr, List.foldl_cons, List.foldl_nil, Act.put, List.setIfInBounds_toArray, List.set_cons_zero, List.set_cons_succ]; rfl)
        case a3S =>
          refine Steps.plain (i := 0) (o := ?a3o0) [] ?a3h0 ?a3g0 ?a3d0 ?a3s0 ?a3r0
          case a3h0 => (simp only [List.getElem?_toArray, List.getElem?_cons_zero]; rfl)
          case a3g0 => rfl
          case a3d0 => kernel_rfl
          case a3s0 =>
            rintro L aa w h0 _ ⟨v34, v35, v36, v37, v38, v39, rfl, hO2, hN, hF⟩ K hK
            simp only [fr, List.foldl_cons, List.foldl_nil, Act.put, List.setIfInBounds_toArray, List.set_cons_zero, List.set_cons_succ]
            have x0 := only_cell hO2 zt (fun e => nbt (.inr e))
            go_simp
            exact hK _ _ ⟨(Value.pointer (some ⟨g, 0, none⟩)), v35, v36, v37, v38, v39, (by (simp only [fr, List.foldl_cons, List.foldl_nil, Act.put, List.setIfInBounds_toArray, List.set_cons_zero, List.set_cons_succ]); try rfl), hO2, hN, Lib.hid (fun _ => rfl), hF.2.1, hF.2.2.1, hF.2.2.2.1, hF.2.2.2.2.1, hF.2.2.2.2.2⟩
          refine Steps.plain (i := 1) (o := ?a3o1) [0] ?a3h1 ?a3g1 ?a3d1 ?a3s1 ?a3r1
          case a3h1 => (simp only [List.getElem?_toArray, List.getElem?_cons_succ, List.getElem?_cons_zero]; rfl)
          case a3g1 => rfl
          case a3d1 => kernel_rfl
          case a3s1 =>
            rintro L aa w h0 ⟨e0, _⟩ ⟨v34, v35, v36, v37, v38, v39, rfl, hO2, hN, hF⟩ K hK
            obtain rfl := (hF.1).out e0
            simp only [fr, List.foldl_cons, List.foldl_nil, Act.put, List.setIfInBounds_toArray, List.set_cons_zero, List.set_cons_succ]
            go_simp
            exact hK _ _ ⟨(Value.pointer (some ⟨g, 0, none⟩)), (Value.pointer (some ⟨g, 0, none⟩)), v36, v37, v38, v39, (by (simp only [fr, List.foldl_cons, List.foldl_nil, Act.put, List.setIfInBounds_toArray, List.set_cons_zero, List.set_cons_succ]); try rfl), hO2, hN, hF.1, Lib.hid (fun _ => rfl), hF.2.2.1, hF.2.2.2.1, hF.2.2.2.2.1, hF.2.2.2.2.2⟩
          refine Steps.plain (i := 2) (o := ?a3o2) [1] ?a3h2 ?a3g2 ?a3d2 ?a3s2 ?a3r2
          case a3h2 => (simp only [List.getElem?_toArray, List.getElem?_cons_succ, List.getElem?_cons_zero]; rfl)
          case a3g2 => rfl
          case a3d2 => kernel_rfl
          case a3s2 =>
            rintro L aa w h0 ⟨e1, _⟩ ⟨v34, v35, v36, v37, v38, v39, rfl, hO2, hN, hF⟩ K hK
            obtain rfl := (hF.2.1).out e1
            simp only [fr, List.foldl_cons, List.foldl_nil, Act.put, List.setIfInBounds_toArray, List.set_cons_zero, List.set_cons_succ]
            go_simp
            exact hK _ _ ⟨v34, (Value.pointer (some ⟨g, 0, none⟩)), (Value.pointer (some ⟨g, 2, none⟩)), v37, v38, v39, (by (simp only [fr, List.foldl_cons, List.foldl_nil, Act.put, List.setIfInBounds_toArray, List.set_cons_zero, List.set_cons_succ]); try rfl), hO2, hN, hF.1, hF.2.1, Lib.hid (fun _ => rfl), hF.2.2.2.1, hF.2.2.2.2.1, hF.2.2.2.2.2⟩
          refine Steps.plain (i := 3) (o := ?a3o3) [2] ?a3h3 ?a3g3 ?a3d3 ?a3s3 ?a3r3
          case a3h3 => (simp only [List.getElem?_toArray, List.getElem?_cons_succ, List.getElem?_cons_zero]; rfl)
          case a3g3 => rfl
          case a3d3 => kernel_rfl
          case a3s3 =>
            rintro L aa w h0 ⟨e2, _⟩ ⟨v34, v35, v36, v37, v38, v39, rfl, hO2, hN, hF⟩ K hK
            obtain rfl := (hF.2.2.1).out e2
            simp only [fr, List.foldl_cons, List.foldl_nil, Act.put, List.setIfInBounds_toArray, List.set_cons_zero, List.set_cons_succ]
            have x0 := only_cell hO2 zg (fun e => ng (.inr e))
            go_simp
            exact hK _ _ ⟨v34, v35, (Value.pointer (some ⟨g, 2, none⟩)), (Value.map (some bn)), v38, v39, (by (simp only [fr, List.foldl_cons, List.foldl_nil, Act.put, List.setIfInBounds_toArray, List.set_cons_zero, List.set_cons_succ]); try rfl), hO2, hN, hF.1, hF.2.1, hF.2.2.1, Lib.hid (fun _ => rfl), hF.2.2.2.2.1, hF.2.2.2.2.2⟩
          refine Steps.plain (i := 4) (o := ?a3o4) [] ?a3h4 ?a3g4 ?a3d4 ?a3s4 ?a3r4
          case a3h4 => (simp only [List.getElem?_toArray, List.getElem?_cons_succ, List.getElem?_cons_zero]; rfl)
          case a3g4 => rfl
          case a3d4 => kernel_rfl
          case a3s4 =>
            rintro L aa w h0 _ ⟨v34, v35, v36, v37, v38, v39, rfl, hO2, hN, hF⟩ K hK
            simp only [fr, List.foldl_cons, List.foldl_nil, Act.put, List.setIfInBounds_toArray, List.set_cons_zero, List.set_cons_succ]
            have x0 := only_cell hO2 zp0 (fun e => ngb (.inr e))
            have x1 := only_cell hO2 zp1 (fun e => ngb (.inr e))
            go_simp
            exact hK _ _ ⟨v34, v35, v36, v37, (Value.agg #[.int .i64 lv, .int .i64 k]), v39, (by (simp only [fr, List.foldl_cons, List.foldl_nil, Act.put, List.setIfInBounds_toArray, List.set_cons_zero, List.set_cons_succ]); try rfl), hO2, hN, hF.1, hF.2.1, hF.2.2.1, hF.2.2.2.1, Lib.hid (fun _ => rfl), hF.2.2.2.2.2⟩
          refine Steps.plain (i := 5) (o := ?a3o5) [] ?a3h5 ?a3g5 ?a3d5 ?a3s5 ?a3r5
          case a3h5 => (simp only [List.getElem?_toArray, List.getElem?_cons_succ, List.getElem?_cons_zero]; rfl)
          case a3g5 => rfl
          case a3d5 => kernel_rfl
          case a3s5 =>
            rintro L aa w h0 _ ⟨v34, v35, v36, v37, v38, v39, rfl, hO2, hN, hF⟩ K hK
            simp only [fr, List.foldl_cons, List.foldl_nil, Act.put, List.setIfInBounds_toArray, List.set_cons_zero, List.set_cons_succ]
            have x0 := only_cell hO2 zh nbh
            go_simp
            exact hK _ _ ⟨v34, v35, v36, v37, v38, (Value.int .u64 H), (by (simp only [fr, List.foldl_cons, List.foldl_nil, Act.put, List.setIfInBounds_toArray, List.set_cons_zero, List.set_cons_succ]); try rfl), hO2, hN, hF.1, hF.2.1, hF.2.2.1, hF.2.2.2.1, hF.2.2.2.2.1, Lib.hid (fun _ => rfl)⟩
          refine Steps.plain (i := 6) (o := ?a3o6) [3, 4, 5] ?a3h6 ?a3g6 ?a3d6 ?a3s6 ?a3r6
          case a3h6 => (simp only [List.getElem?_toArray, List.getElem?_cons_succ, List.getElem?_cons_zero]; rfl)
          case a3g6 => rfl
          case a3d6 => kernel_rfl
          case a3s6 =>
            rintro L aa w h0 ⟨e3, e4, e5, _⟩ ⟨v34, v35, v36, v37, v38, v39, rfl, hO2, hN, hF⟩ K hK
            obtain rfl := (hF.2.2.2.1).out e3
            obtain rfl := (hF.2.2.2.2.1).out e4
            obtain rfl := (hF.2.2.2.2.2).out e5
            simp only [fr, List.foldl_cons, List.foldl_nil, Act.put, List.setIfInBounds_toArray, List.set_cons_zero, List.set_cons_succ]
            refine step_storeU rfl (.tmp 37) (.tmp 38) (.tmp 39) rfl rfl (hN.out.1 h0) (by unfold maxLen; omega) rfl rfl HKI.out.1 HKI.out.2.1 ?_
            intro w3 m1 m2
            exact hK _ _ ⟨v34, v35, v36, (Value.map (some bn)), (Value.agg #[.int .i64 lv, .int .i64 k]), (Value.int .u64 H), (by (simp only [fr, List.foldl_cons, List.foldl_nil, Act.put, List.setIfInBounds_toArray, List.set_cons_zero, List.set_cons_succ]); try rfl), hO2.trans m2, Lib.hid ⟨(fun h => by cases h), fun _ => m1⟩, hF.1, hF.2.1, hF.2.2.1, hF.2.2.2.1, hF.2.2.2.2.1, hF.2.2.2.2.2⟩
          exact Steps.nil
        case a3D =>
          rintro L aa w hL ⟨v34, v35, v36, v37, v38, v39, rfl, hO2, hN, hF⟩
          obtain rfl := (hF.1).out (hL 0 (by decide))
          obtain rfl := (hF.2.1).out (hL 1 (by decide))
          obtain rfl := (hF.2.2.1).out (hL 2 (by decide))
          obtain rfl := (hF.2.2.2.1).out (hL 3 (by decide))
          obtain rfl := (hF.2.2.2.2.1).out (hL 4 (by decide))
          obtain rfl := (hF.2.2.2.2.2).out (hL 5 (by decide))
          have l0 := hL 0 (by decide)
          have l1 := hL 1 (by decide)
          have l2 := hL 2 (by decide)
          have l3 := hL 3 (by decide)
          have l4 := hL 4 (by decide)
          have l5 := hL 5 (by decide)
          have l6 := hL 6 (by decide)
          clear hL
          simp only [fr, List.foldl_cons, List.foldl_nil, Act.put, List.setIfInBounds_toArray, List.set_cons_zero, List.set_cons_succ]
          refine onlyN_mk ?_
          have n6 := Lib.hid (hN.out.2 l6)
          obtain ⟨V, rfl⟩ : ∃ V : World, V = w := ⟨_, rfl⟩
          have HV := Lib.hid hO2
          have y0 := only_cell hO2 zt (fun e => nbt (.inr e))
          have y1 := only_cell hO2 zg (fun e => ng (.inr e))
          have y2 := only_cell hO2 zp0 (fun e => ngb (.inr e))
          have y3 := only_cell hO2 zp1 (fun e => ngb (.inr e))
          have y4 := only_cell hO2 zh nbh
          have e3 := hO2.size
          clear hN hO2 zt zg zp0 zp1 zh zc zl
          gi_wp2
          refine region_in (by kernel_rfl) (by kernel_rfl) ?_
          refine wpAny_go (fun A0 L aa w => ∃ (v40 v41 v42 v43 v44 v45 v46 : Value), aa = fr A0 [(40, v40), (41, v41), (42, v42), (43, v43), (44, v44), (45, v45), (46, v46)] ∧ (Only (· = bn) V w) ∧ (Hid ((L 7 = false → MU w bn (m + 1) (putM Mx (plL lv k) H)) ∧ (L 7 = true → MU w bn (m + 1 + 1) (putM (putM Mx (plL lv k) H) (plL lv s) p)))) ∧ Hid (L 0 = true → v40 = Value.pointer (some ⟨g, 0, none⟩)) ∧ Hid (L 1 = true → v41 = Value.pointer (some ⟨g, 0, none⟩)) ∧ Hid (L 2 = true → v42 = Value.pointer (some ⟨g, 2, none⟩)) ∧ Hid (L 3 = true → v43 = Value.map (some bn)) ∧ Hid (L 4 = true → v44 = Value.agg #[.int .i64 lv, .int .i64 k]) ∧ Hid (L 5 = true → v45 = Value.agg #[.int .i64 lv, .int .i64 s]) ∧ Hid (L 6 = true → v46 = Value.int .u64 p)) [0, 1, 2, 3, 4, 5, 6, 7] (by kernel_rfl) (by kernel_rfl) ?a2I ?a2S ?a2D
          case a2I =>
            refine ⟨?a2v40, ?a2v41, ?a2v42, ?a2v43, ?a2v44, ?a2v45, ?a2v46, ?a2fr, (Only.refl _ _).drew, Lib.hid ⟨fun _ => n6.out.drew, no_yet (by kernel_rfl)⟩, Lib.hid (no_yet (by kernel_rfl)), Lib.hid (no_yet (by kernel_rfl)), Lib.hid (no_yet (by kernel_rfl)), Lib.hid (no_yet (by kernel_rfl)), Lib.hid (no_yet (by kernel_rfl)), Lib.hid (no_yet (by kernel_rfl)), Lib.hid (no_yet (by kernel_rfl))⟩
            case a2fr => (simp only [fr, List.foldl_cons, List.foldl_nil, Act.put, List.setIfInBounds_toArray, List.set_cons_zero, List.set_cons_succ]; rfl)
          case a2S =>
            refine Steps.plain (i := 0) (o := ?a2o0) [] ?a2h0 ?a2g0 ?a2d0 ?a2s0 ?a2r0
            case a2h0 => (simp only [List.getElem?_toArray, List.getElem?_cons_zero]; rfl)
            case a2g0 => rfl
            case a2d0 => kernel_rfl
            case a2s0 =>
              rintro L aa w h0 _ ⟨v40, v41, v42, v43, v44, v45, v46, rfl, hO2, hN, hF⟩ K hK
              simp only [fr, List.foldl_cons, List.foldl_nil, Act.put, List.setIfInBounds_toArray, List.set_cons_zero, List.set_cons_succ]
              have x0 := only_cell hO2 y0 (fun e => nbt (.inr e))
              go_simp
              exact hK _ _ ⟨(Value.pointer (some ⟨g, 0, none⟩)), v41, v42, v43, v44, v45, v46, (by (simp only [fr, List.foldl_cons, List.foldl_nil, Act.put, List.setIfInBounds_toArray, List.set_cons_zero, List.set_cons_succ]); try rfl), hO2, hN, Lib.hid (fun _ => rfl), hF.2.1, hF.2.2.1, hF.2.2.2.1, hF.2.2.2.2.1, hF.2.2.2.2.2.1, hF.2.2.2.2.2.2⟩
            refine Steps.plain (i := 1) (o := ?a2o1) [0] ?a2h1 ?a2g1 ?a2d1 ?a2s1 ?a2r1
            case a2h1 => (simp only [List.getElem?_toArray, List.getElem?_cons_succ, List.getElem?_cons_zero]; rfl)
            case a2g1 => rfl
            case a2d1 => kernel_rfl
            case a2s1 =>
              rintro L aa w h0 ⟨e0, _⟩ ⟨v40, v41, v42, v43, v44, v45, v46, rfl, hO2, hN, hF⟩ K hK
              obtain rfl := (hF.1).out e0
              simp only [fr, List.foldl_cons, List.foldl_nil, Act.put, List.setIfInBounds_toArray, List.set_cons_zero, List.set_cons_succ]
              go_simp
              exact hK _ _ ⟨(Value.pointer (some ⟨g, 0, none⟩)), (Value.pointer (some ⟨g, 0, none⟩)), v42, v43, v44, v45, v46, (by (simp only [fr, List.foldl_cons, List.foldl_nil, Act.put, List.setIfInBounds_toArray, List.set_cons_zero, List.set_cons_succ]); try rfl), hO2, hN, hF.1, Lib.hid (fun _ => rfl), hF.2.2.1, hF.2.2.2.1, hF.2.2.2.2.1, hF.2.2.2.2.2.1, hF.2.2.2.2.2.2⟩
            refine Steps.plain (i := 2) (o := ?a2o2) [1] ?a2h2 ?a2g2 ?a2d2 ?a2s2 ?a2r2
            case a2h2 => (simp only [List.getElem?_toArray, List.getElem?_cons_succ, List.getElem?_cons_zero]; rfl)
            case a2g2 => rfl
            case a2d2 => kernel_rfl
            case a2s2 =>
              rintro L aa w h0 ⟨e1, _⟩ ⟨v40, v41, v42, v43, v44, v45, v46, rfl, hO2, hN, hF⟩ K hK
              obtain rfl := (hF.2.1).out e1
              simp only [fr, List.foldl_cons, List.foldl_nil, Act.put, List.setIfInBounds_toArray, List.set_cons_zero, List.set_cons_succ]
              go_simp
              exact hK _ _ ⟨v40, (Value.pointer (some ⟨g, 0, none⟩)), (Value.pointer (some ⟨g, 2, none⟩)), v43, v44, v45, v46, (by (simp only [fr, List.foldl_cons, List.foldl_nil, Act.put, List.setIfInBounds_toArray, List.set_cons_zero, List.set_cons_succ]); try rfl), hO2, hN, hF.1, hF.2.1, Lib.hid (fun _ => rfl), hF.2.2.2.1, hF.2.2.2.2.1, hF.2.2.2.2.2.1, hF.2.2.2.2.2.2⟩
            refine Steps.plain (i := 3) (o := ?a2o3) [2] ?a2h3 ?a2g3 ?a2d3 ?a2s3 ?a2r3
            case a2h3 => (simp only [List.getElem?_toArray, List.getElem?_cons_succ, List.getElem?_cons_zero]; rfl)
            case a2g3 => rfl
            case a2d3 => kernel_rfl
            case a2s3 =>
              rintro L aa w h0 ⟨e2, _⟩ ⟨v40, v41, v42, v43, v44, v45, v46, rfl, hO2, hN, hF⟩ K hK
              obtain rfl := (hF.2.2.1).out e2
              simp only [fr, List.foldl_cons, List.foldl_nil, Act.put, List.setIfInBounds_toArray, List.set_cons_zero, List.set_cons_succ]
              have x0 := only_cell hO2 y1 (fun e => ng (.inr e))
              go_simp
              exact hK _ _ ⟨v40, v41, (Value.pointer (some ⟨g, 2, none⟩)), (Value.map (some bn)), v44, v45, v46, (by (simp only [fr, List.foldl_cons, List.foldl_nil, Act.put, List.setIfInBounds_toArray, List.set_cons_zero, List.set_cons_succ]); try rfl), hO2, hN, hF.1, hF.2.1, hF.2.2.1, Lib.hid (fun _ => rfl), hF.2.2.2.2.1, hF.2.2.2.2.2.1, hF.2.2.2.2.2.2⟩
            refine Steps.plain (i := 4) (o := ?a2o4) [] ?a2h4 ?a2g4 ?a2d4 ?a2s4 ?a2r4
            case a2h4 => (simp only [List.getElem?_toArray, List.getElem?_cons_succ, List.getElem?_cons_zero]; rfl)
            case a2g4 => rfl
            case a2d4 => kernel_rfl
            case a2s4 =>
              rintro L aa w h0 _ ⟨v40, v41, v42, v43, v44, v45, v46, rfl, hO2, hN, hF⟩ K hK
              simp only [fr, List.foldl_cons, List.foldl_nil, Act.put, List.setIfInBounds_toArray, List.set_cons_zero, List.set_cons_succ]
              have x0 := only_cell hO2 y2 (fun e => ngb (.inr e))
              have x1 := only_cell hO2 y3 (fun e => ngb (.inr e))
              go_simp
              exact hK _ _ ⟨v40, v41, v42, v43, (Value.agg #[.int .i64 lv, .int .i64 k]), v45, v46, (by (simp only [fr, List.foldl_cons, List.foldl_nil, Act.put, List.setIfInBounds_toArray, List.set_cons_zero, List.set_cons_succ]); try rfl), hO2, hN, hF.1, hF.2.1, hF.2.2.1, hF.2.2.2.1, Lib.hid (fun _ => rfl), hF.2.2.2.2.2.1, hF.2.2.2.2.2.2⟩
            refine Steps.plain (i := 5) (o := ?a2o5) [4] ?a2h5 ?a2g5 ?a2d5 ?a2s5 ?a2r5
            case a2h5 => (simp only [List.getElem?_toArray, List.getElem?_cons_succ, List.getElem?_cons_zero]; rfl)
            case a2g5 => rfl
            case a2d5 => kernel_rfl
            case a2s5 =>
              rintro L aa w h0 ⟨e4, _⟩ ⟨v40, v41, v42, v43, v44, v45, v46, rfl, hO2, hN, hF⟩ K hK
              obtain rfl := (hF.2.2.2.2.1).out e4
              simp only [fr, List.foldl_cons, List.foldl_nil, Act.put, List.setIfInBounds_toArray, List.set_cons_zero, List.set_cons_succ]
              go_simp
              refine (sibling_any lv k _ hk9).mono ?_
              rintro e w3 ⟨rfl, hb3⟩
              rw [HSB.out]
              exact hK _ _ ⟨v40, v41, v42, v43, (Value.agg #[.int .i64 lv, .int .i64 k]), (Value.agg #[.int .i64 lv, .int .i64 s]), v46, (by (simp only [fr, List.foldl_cons, List.foldl_nil, Act.put, List.setIfInBounds_toArray, List.set_cons_zero, List.set_cons_succ]); try rfl), o_below hO2 hb3, Lib.hid ⟨fun h => (hN.out.1 h).call hb3, fun h => (hN.out.2 h).call hb3⟩, hF.1, hF.2.1, hF.2.2.1, hF.2.2.2.1, hF.2.2.2.2.1, Lib.hid (fun _ => rfl), hF.2.2.2.2.2.2⟩
            refine Steps.plain (i := 6) (o := ?a2o6) [] ?a2h6 ?a2g6 ?a2d6 ?a2s6 ?a2r6
            case a2h6 => (simp only [List.getElem?_toArray, List.getElem?_cons_succ, List.getElem?_cons_zero]; rfl)
            case a2g6 => rfl
            case a2d6 => kernel_rfl
            case a2s6 =>
              rintro L aa w h0 _ ⟨v40, v41, v42, v43, v44, v45, v46, rfl, hO2, hN, hF⟩ K hK
              simp only [fr, List.foldl_cons, List.foldl_nil, Act.put, List.setIfInBounds_toArray, List.set_cons_zero, List.set_cons_succ]
              go_simp
              exact hK _ _ ⟨v40, v41, v42, v43, v44, v45, (Value.int .u64 p), (by (simp only [fr, List.foldl_cons, List.foldl_nil, Act.put, List.setIfInBounds_toArray, List.set_cons_zero, List.set_cons_succ]); try rfl), hO2, hN, hF.1, hF.2.1, hF.2.2.1, hF.2.2.2.1, hF.2.2.2.2.1, hF.2.2.2.2.2.1, Lib.hid (fun _ => rfl)⟩
            refine Steps.plain (i := 7) (o := ?a2o7) [3, 5, 6] ?a2h7 ?a2g7 ?a2d7 ?a2s7 ?a2r7
            case a2h7 => (simp only [List.getElem?_toArray, List.getElem?_cons_succ, List.getElem?_cons_zero]; rfl)
            case a2g7 => rfl
            case a2d7 => kernel_rfl
            case a2s7 =>
              rintro L aa w h0 ⟨e3, e5, e6, _⟩ ⟨v40, v41, v42, v43, v44, v45, v46, rfl, hO2, hN, hF⟩ K hK
              obtain rfl := (hF.2.2.2.1).out e3
              obtain rfl := (hF.2.2.2.2.2.1).out e5
              obtain rfl := (hF.2.2.2.2.2.2).out e6
              simp only [fr, List.foldl_cons, List.foldl_nil, Act.put, List.setIfInBounds_toArray, List.set_cons_zero, List.set_cons_succ]
              refine step_storeU rfl (.tmp 43) (.tmp 45) (.tmp 46) rfl rfl (hN.out.1 h0) (by unfold maxLen; omega) rfl rfl HKI.out.1 HKI.out.2.2 ?_
              intro w3 m1 m2
              exact hK _ _ ⟨v40, v41, v42, (Value.map (some bn)), v44, (Value.agg #[.int .i64 lv, .int .i64 s]), (Value.int .u64 p), (by (simp only [fr, List.foldl_cons, List.foldl_nil, Act.put, List.setIfInBounds_toArray, List.set_cons_zero, List.set_cons_succ]); try rfl), hO2.trans m2, Lib.hid ⟨(fun h => by cases h), fun _ => m1⟩, hF.1, hF.2.1, hF.2.2.1, hF.2.2.2.1, hF.2.2.2.2.1, hF.2.2.2.2.2.1, hF.2.2.2.2.2.2⟩
            exact Steps.nil
          case a2D =>
            rintro L aa w hL ⟨v40, v41, v42, v43, v44, v45, v46, rfl, hO2, hN, hF⟩
            obtain rfl := (hF.1).out (hL 0 (by decide))
            obtain rfl := (hF.2.1).out (hL 1 (by decide))
            obtain rfl := (hF.2.2.1).out (hL 2 (by decide))
            obtain rfl := (hF.2.2.2.1).out (hL 3 (by decide))
            obtain rfl := (hF.2.2.2.2.1).out (hL 4 (by decide))
            obtain rfl := (hF.2.2.2.2.2.1).out (hL 5 (by decide))
            obtain rfl := (hF.2.2.2.2.2.2).out (hL 6 (by decide))
            have l0 := hL 0 (by decide)
            have l1 := hL 1 (by decide)
            have l2 := hL 2 (by decide)
            have l3 := hL 3 (by decide)
            have l4 := hL 4 (by decide)
            have l5 := hL 5 (by decide)
            have l6 := hL 6 (by decide)
            have l7 := hL 7 (by decide)
            clear hL
            simp only [fr, List.foldl_cons, List.foldl_nil, Act.put, List.setIfInBounds_toArray, List.set_cons_zero, List.set_cons_succ]
            refine onlyN_mk ?_
            have n7 := Lib.hid (hN.out.2 l7)
            obtain ⟨R, rfl⟩ : ∃ R : World, R = w := ⟨_, rfl⟩
            have HR := Lib.hid (HV.out.trans hO2)
            have x2 := only_cell hO2 y2 (fun e => ngb (.inr e))
            have x3 := only_cell hO2 y3 (fun e => ngb (.inr e))
            have x4 := only_cell hO2 y4 nbh
            have e4 := hO2.size
            clear hN hO2 y0 y1 y2 y3 y4
            gi_wp2_with fail
            refine ⟨trivial, CallsIn.inRound l (callsIn_wide.2 ((join_any lv k H p _).mono ?_))⟩
            rintro e w9 ⟨rfl, hb9⟩
            have hv9 := Lib.hid ((HHH.out.only HR.out nbh).call hb9)
            have u0 : w9.cell? ⟨bh, 0, none⟩ = some (.int .u64 H) := hv9.out.cell 0
            have u1 := hv9.out.frozen 0
            have u2 := hv9.out.lt
            have n9 := Lib.hid (n7.out.call hb9)
            have o9 := Lib.hid ((of_below (HR.out.mono (G := fun j => j = bh ∨ j = bn) (fun j _ e => .inr e)) hb9).setCell (p := ⟨bh, 0, none⟩) (.inl (.inl rfl)) (.int .u64 (jn k H p)))
            clear hb9
            gi_wp2
            refine ⟨keepsFrom_only o9.out (fun j hj => by omega), Kp2.of_only o9.out (by omega) (by omega) (by omega) (by omega), HHO.out.trans o9.out, ?_, ?_⟩
            · rw [HPH.out]
              exact hv9.out.set 0 _
            · rw [HPH.out]
              refine MU.mono (n := m + 1 + 1) (n9.out.same (Below.heap_setCell _ ⟨bh, 0, none⟩ _ _ (fun e => nbh e.symm))) ?_
              have := HM.out
              rw [List.length_append, List.length_singleton]
              omega
      case done =>
        rintro D ys W hD hys ⟨hO, hVH, hMU⟩ hK
        have hlen : ys.length = q := by
          have := congrArg List.length hys
          simpa [lvs] using this
        rw [hys, hlen] at hMU
        rw [hys] at hVH
        have hzs := HZs.out
        have nbc : ¬ (bc = bh ∨ bc = bn) := by omega
        have ng : ¬ (g = bh ∨ g = bn) := by omega
        have pC := HC4.out.only hO nbc
        have pV := HVG4.out.only hO ng
        have oW : Only (fun k => k = bc ∨ k = bn) W0 W := ((HOX.out.trans (HO4.out.mono (fun j _ e => Or.inl e))).step hO (fun j hj h => by have h3 := HB0.out; omega))
        clear hys hlen hVH
        gi_wp2
        refine ⟨by simp, .inl ⟨_, _, rfl, run_takeDeferred hK, ?_⟩⟩
        refine ⟨_, results_none rfl _ _ _, ⟨_, rfl⟩, ⟨vr_putObj pV (by omega), MI.mono (pC.same (World.putObj_heap_other (by omega))) (by omega), MU.mono (hMU.same (World.putObj_heap_other (by omega))) (by omega), gc, gn, cn⟩, only_putObj oW (by have h3 := HB0.out; omega) rfl⟩
theorem learn_any (g bc bn q N : Nat) (C M : Lit → Option Int) (i : Nat) (v : Int) (A : Option Addr) (c : Nat) (prf : List Int) (W0 : World) (H : Par W0 g bc bn q N C M)
    (rd : Rd W0 W0.heap.size 1 A q (prf.map (Value.int .u64))) (hq : q ≤ 10) (hi : i ≤ 1000000) (hN : N ≤ 100000) :
    Calls Try.prog 46 #[.pointer (some ⟨g, 0, none⟩), .agg #[.int .i64 (i : Int), .int .i64 v, .slice A q c]] W0 fun e w' => (∃ u, e = .returned u) ∧ Par w' g bc bn q (N + 1 + 2 * q) (putM C (kI i) v) (lrnRun prf i (M, leafI i v) (List.range q)).1 ∧ Only (fun k => k = bc ∨ k = bn) W0 w' :=
  callsIn_wide.1 (learn_in g bc bn q N C M i v A c prf W0 H rd hq hi hN)
end Go.Proofs.Ytgelhcgaacnjcaa
