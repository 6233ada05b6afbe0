/-
  WHAT IS PROVED HERE: the contract of package merkle's New. No condition but that the cells lie in memory, and that there are no more than a thousand.
-/
import Derived.Test.YtgelhcgaacnjcaaMkE
namespace Go.Proofs.Ytgelhcgaacnjcaa
set_option linter.unusedVariables false
open Go.ChangeShapes Go.WideShapes Go.ChangeAt Go.RowKit

/-- A new tree comes back. -/
def RetTr (w : World) (cs : List Int) (e : Ending) (w' : World) : Prop :=
  ∃ g bc bn f, e = .returned (.pointer (some ⟨g, 0, none⟩)) ∧ Tr w' g bc bn cs f ∧ (∀ k, TF g bc bn k → w.heap.size ≤ k) ∧ Below w.heap.size w w'
theorem slU64b : SlT Try.prog 23 22 1 8 := .mk' (z := .int .u64 0) Try.underlying23 (by kernel_rfl) rfl (by omega)
theorem arrI_made (n : Nat) : madeCells (Value.int .i64 0).cells (n * 1) = arrI (List.replicate n 0) := by
  apply Array.toList_inj.1
  show (madeCells #[Value.int .i64 0] (n * 1)).toList = _
  rw [made_one]
  simp [arrI]
theorem pr_any (a b : Int) (w : World) :
    Calls Try.prog 42 #[.int .u64 a, .int .u64 b] w fun e w' => e = .returned (.int .u64 (prI a b)) ∧ Below w.heap.size w w' := by
  rw [prI_def]
  exact pair_any a b w
theorem empty_any (w : World) : Calls Try.prog 41 #[.string emptyTxt, .slice none 0 0] w fun e w' => e = .returned (.int .u64 emptyI) ∧ Below w.heap.size w w' := by
  have h := sum_any emptyTxt (by decide) none 0 0 [] w (Rd.nil _) (by omega)
  unfold emptyI
  exact h
theorem lfV_out {cs : List Int} {i : Nat} (h : cs.length ≤ i) : lfV cs i = emptyI := by unfold lfV; rw [dif_neg (by omega)]
set_option maxRecDepth 100000 in
set_option maxHeartbeats 8000000 in
theorem new_any (A : Option Addr) (n c : Nat) (cs : List Int) (X : World) (rd : Rd X X.heap.size 1 A n (cs.map (Value.int .i64))) (hn : n ≤ 1000) :
    Calls Try.prog 19 #[.slice A n c] X (RetTr X cs) := by
  have hll : cs.length = n := by have := rd.1; simpa using this
  have h10 : hgt n ≤ 10 := hgt_min (by omega)
  have hge := hgt_ge n
  obtain ⟨h, hh⟩ : ∃ h, hgt n = h := ⟨_, rfl⟩
  have hp := pow10 h10
  rw [hh] at h10 hge hp
  obtain ⟨S, hS⟩ : ∃ S, 2 ^ h = S := ⟨_, rfl⟩
  rw [hS] at hge hp
  have E1 : (2 : Int) ^ h = ((S : Nat) : Int) := by rw [← hS, Int.natCast_pow]; rfl
  have HP1 := Lib.hid E1
  have HL := Lib.hid hll
  have HH := Lib.hid hh
  have HS := Lib.hid hS
  have RD := Lib.hid rd
  have E21 := Lib.hid (show IntKind.i64.wrap (2 * (S : Int)) = 2 * (S : Int) from IntWalk.i64_in _ (by omega))
  have M1 := Lib.hid (fun W => run_mk (P := Try.prog) (z := .int .i64 0) (size := 1) (bytes := 8) Try.underlying26 (by kernel_rfl) n (by omega) (by omega) W)
  rw [arrI_made] at M1
  have M2 := Lib.hid (fun W => run_mk (P := Try.prog) (z := .int .u64 0) (size := 1) (bytes := 8) Try.underlying23 (by kernel_rfl) (2 * S) (by omega) (by omega) W)
  rw [show (Value.int .u64 0).cells = #[Value.int .u64 0] from rfl, arrN_made, show ((2 * S : Nat) : Int) = 2 * (S : Int) from by omega] at M2
  clear hll hh rd hS E1
  go_enter Try.func19, Try.ntmps19
  go_wp2_with fail
  refine (height_any n _ (by omega)).mono ?_
  rintro e w_ ⟨rfl, rfl⟩
  rw [HH.out]
  have e1 := HP1.out
  go_wp2
  clear e1
  refine wp_region_any (by kernel_rfl) ?_
  change wpAny _ _ _ _ _ _ _ (World.drew _)
  refine take_at (i := 0) (some 16) (v := ?vg35) rfl rfl (by kernel_rfl) (by kernel_rfl) (by kernel_rfl) (fun _ _ _ h => h) (Or.inl ⟨by rfl, ?hg35⟩) ?rg35
  case hg35 => (intro w0; go_simp; try with_reducible rfl)
  simp only [Act.put, List.setIfInBounds_toArray, List.set_cons_zero, List.set_cons_succ]
  refine take_at (i := 1) (some 17) (v := ?vg36) rfl rfl (by kernel_rfl) (by kernel_rfl) (by kernel_rfl) (fun _ _ _ h => h) (Or.inl ⟨by rfl, ?hg36⟩) ?rg36
  case hg36 => (intro w0; go_simp; try with_reducible rfl)
  simp only [Act.put, List.setIfInBounds_toArray, List.set_cons_zero, List.set_cons_succ]
  refine take_at (i := 4) (some 20) (v := ?vg37) rfl rfl (by kernel_rfl) (by kernel_rfl) (by kernel_rfl) (fun _ _ _ h => h) (Or.inl ⟨by rfl, ?hg37⟩) ?rg37
  case hg37 => (intro w0; go_simp; try with_reducible rfl)
  simp only [Act.put, List.setIfInBounds_toArray, List.set_cons_zero, List.set_cons_succ]
  refine wpAny_go (fun A0 L aa w => ∃ (v18 v19 v21 v22 v23 v24 v5 : Value) (bc : Nat) (bn : Nat) (g : Nat), aa = fr A0 [(18, v18), (19, v19), (21, v21), (22, v22), (23, v23), (24, v24), (5, v5)] ∧ (Below X.heap.size X w) ∧ (Hid (L 3 = true → X.heap.size ≤ bc ∧ Vr w bc 3 (arrI (List.replicate n 0)))) ∧ (Hid (L 6 = true → X.heap.size ≤ bn ∧ Vr w bn 22 (arrN (2 * S) (fun _ => 0)))) ∧ (Hid (L 3 = true → L 6 = true → bc ≠ bn)) ∧ (Hid (L 8 = true → X.heap.size ≤ g ∧ g ≠ bc ∧ g ≠ bn ∧ Vr w g 69 #[.int .i64 h, .slice (some ⟨bc, 0, none⟩) n n, .slice (some ⟨bn, 0, none⟩) (2 * S) (2 * S)])) ∧ ((L 7 = true → L 3 = true ∧ L 6 = true) ∧ (L 8 = true → L 7 = true) ∧ (L 9 = true → L 8 = true)) ∧ Hid (L 2 = true → v18 = Value.int .i64 n) ∧ Hid (L 3 = true → v19 = Value.slice (some ⟨bc, 0, none⟩) n n) ∧ Hid (L 5 = true → v21 = Value.int .i64 (2 * (S : Int))) ∧ Hid (L 6 = true → v22 = Value.slice (some ⟨bn, 0, none⟩) (2 * S) (2 * S)) ∧ Hid (L 7 = true → v23 = Value.agg #[.int .i64 h, .slice (some ⟨bc, 0, none⟩) n n, .slice (some ⟨bn, 0, none⟩) (2 * S) (2 * S)]) ∧ Hid (L 8 = true → v24 = Value.pointer (some ⟨g, 0, none⟩)) ∧ Hid (L 9 = true → v5 = Value.pointer (some ⟨g, 0, none⟩))) [2, 3, 5, 6, 7, 8, 9] (by kernel_rfl) (by kernel_rfl) ?a34I ?a34S ?a34D
  case a34I =>
    refine ⟨?a34v18, ?a34v19, ?a34v21, ?a34v22, ?a34v23, ?a34v24, ?a34v5, 0, 0, 0, ?a34fr, b_drew (Below.refl _ _), Lib.hid (no_yet (by kernel_rfl)), Lib.hid (no_yet (by kernel_rfl)), Lib.hid (no_yet (by kernel_rfl)), Lib.hid (no_yet (by kernel_rfl)), ⟨no_yet (by kernel_rfl), no_yet (by kernel_rfl), no_yet (by kernel_rfl)⟩, Lib.hid (no_yet (by kernel_rfl)), Lib.hid (no_yet (by kernel_rfl)), Lib.hid (no_yet (by kernel_rfl)), Lib.hid (no_yet (by kernel_rfl)), Lib.hid (no_yet (by kernel_rfl)), Lib.hid (no_yet (by kernel_rfl)), Lib.hid (no_yet (by kernel_rfl))⟩
    case a34fr => (simp only [fr, List.foldl_cons, List.foldl_nil, Act.put, List.setIfInBounds_toArray, List.set_cons_zero, List.set_cons_succ]; rfl)
  case a34S =>
    refine Steps.go (i := 2) (o := _) rfl ?a34s2 (Steps.go (i := 3) (o := _) rfl ?a34s3 (Steps.go (i := 5) (o := _) rfl ?a34s5 (Steps.go (i := 6) (o := _) rfl ?a34s6 (Steps.go (i := 7) (o := _) rfl ?a34s7 (Steps.go (i := 8) (o := _) rfl ?a34s8 (Steps.go (i := 9) (o := _) rfl ?a34s9 Steps.nil))))))
    · rintro L aa w h0 hd ⟨v18, v19, v21, v22, v23, v24, v5, bc, bn, g, rfl, hB, hC, hN, hD, hG, hY, f2, f3, f5, f6, f7, f8, f9⟩ K hK
      simp only [fr, List.foldl_cons, List.foldl_nil, Act.put, List.setIfInBounds_toArray, List.set_cons_zero, List.set_cons_succ]
      go_simp
      exact hK _ _ ⟨(Value.int .i64 n), v19, v21, v22, v23, v24, v5, bc, bn, g, (by simp only [fr, List.foldl_cons, List.foldl_nil, Act.put, List.setIfInBounds_toArray, List.set_cons_zero, List.set_cons_succ]), hB, hC, hN, hD, hG, hY, Lib.hid (fun _ => rfl), f3, f5, f6, f7, f8, f9⟩
    · rintro L aa w h0 hd ⟨v18, v19, v21, v22, v23, v24, v5, bc, bn, g, rfl, hB, hC, hN, hD, hG, hY, f2, f3, f5, f6, f7, f8, f9⟩ K hK
      obtain rfl := f2.out (hd 2 (by kernel_rfl))
      simp only [fr, List.foldl_cons, List.foldl_nil, Act.put, List.setIfInBounds_toArray, List.set_cons_zero, List.set_cons_succ]
      have m := M1.out w
      have e7 : L 7 = false := by rcases h : L 7 with _ | _ <;> first | rfl | exact absurd (hY.1 h).1 (by simp [h0])
      have e8 : L 8 = false := by rcases h : L 8 with _ | _ <;> first | rfl | exact absurd (hY.2.1 h) (by simp [e7])
      go_simp
      exact hK _ _ ⟨(Value.int .i64 n), (Value.slice (some ⟨(w.heap.size), 0, none⟩) n n), v21, v22, v23, v24, v5, w.heap.size, bn, g, (by simp only [fr, List.foldl_cons, List.foldl_nil, Act.put, List.setIfInBounds_toArray, List.set_cons_zero, List.set_cons_succ]), b_alloc hB _, Lib.hid (fun _ => ⟨hB.size, Vr.new w _ _⟩), Lib.hid (fun l => ⟨(hN.out l).1, (hN.out l).2.alloc _⟩), Lib.hid (fun _ l => by have := (hN.out l).2.lt; omega), Lib.hid (no_yet e8), ⟨no_yet e7, hY.2⟩, f2, Lib.hid (fun _ => rfl), f5, f6, Lib.hid (no_yet e7), Lib.hid (no_yet e8), f9⟩
    · rintro L aa w h0 hd ⟨v18, v19, v21, v22, v23, v24, v5, bc, bn, g, rfl, hB, hC, hN, hD, hG, hY, f2, f3, f5, f6, f7, f8, f9⟩ K hK
      simp only [fr, List.foldl_cons, List.foldl_nil, Act.put, List.setIfInBounds_toArray, List.set_cons_zero, List.set_cons_succ]
      have m := E21.out
      go_simp
      exact hK _ _ ⟨v18, v19, (Value.int .i64 (2 * (S : Int))), v22, v23, v24, v5, bc, bn, g, (by simp only [fr, List.foldl_cons, List.foldl_nil, Act.put, List.setIfInBounds_toArray, List.set_cons_zero, List.set_cons_succ]), hB, hC, hN, hD, hG, hY, f2, f3, Lib.hid (fun _ => rfl), f6, f7, f8, f9⟩
    · rintro L aa w h0 hd ⟨v18, v19, v21, v22, v23, v24, v5, bc, bn, g, rfl, hB, hC, hN, hD, hG, hY, f2, f3, f5, f6, f7, f8, f9⟩ K hK
      obtain rfl := f5.out (hd 5 (by kernel_rfl))
      simp only [fr, List.foldl_cons, List.foldl_nil, Act.put, List.setIfInBounds_toArray, List.set_cons_zero, List.set_cons_succ]
      have m := M2.out w
      have e7 : L 7 = false := by rcases h : L 7 with _ | _ <;> first | rfl | exact absurd (hY.1 h).2 (by simp [h0])
      have e8 : L 8 = false := by rcases h : L 8 with _ | _ <;> first | rfl | exact absurd (hY.2.1 h) (by simp [e7])
      go_simp
      exact hK _ _ ⟨v18, v19, (Value.int .i64 (2 * (S : Int))), (Value.slice (some ⟨(w.heap.size), 0, none⟩) (2 * S) (2 * S)), v23, v24, v5, bc, w.heap.size, g, (by simp only [fr, List.foldl_cons, List.foldl_nil, Act.put, List.setIfInBounds_toArray, List.set_cons_zero, List.set_cons_succ]), b_alloc hB _, Lib.hid (fun l => ⟨(hC.out l).1, (hC.out l).2.alloc _⟩), Lib.hid (fun _ => ⟨hB.size, Vr.new w _ _⟩), Lib.hid (fun l _ => by have := (hC.out l).2.lt; omega), Lib.hid (no_yet e8), ⟨no_yet e7, hY.2⟩, f2, f3, f5, Lib.hid (fun _ => rfl), Lib.hid (no_yet e7), Lib.hid (no_yet e8), f9⟩
    · rintro L aa w h0 hd ⟨v18, v19, v21, v22, v23, v24, v5, bc, bn, g, rfl, hB, hC, hN, hD, hG, hY, f2, f3, f5, f6, f7, f8, f9⟩ K hK
      obtain rfl := f3.out (hd 3 (by kernel_rfl))
      obtain rfl := f6.out (hd 6 (by kernel_rfl))
      simp only [fr, List.foldl_cons, List.foldl_nil, Act.put, List.setIfInBounds_toArray, List.set_cons_zero, List.set_cons_succ]
      have d3 := hd 3 (by kernel_rfl)
      have d6 := hd 6 (by kernel_rfl)
      go_simp
      exact hK _ _ ⟨v18, (Value.slice (some ⟨bc, 0, none⟩) n n), v21, (Value.slice (some ⟨bn, 0, none⟩) (2 * S) (2 * S)), (Value.agg #[.int .i64 h, .slice (some ⟨bc, 0, none⟩) n n, .slice (some ⟨bn, 0, none⟩) (2 * S) (2 * S)]), v24, v5, bc, bn, g, (by simp only [fr, List.foldl_cons, List.foldl_nil, Act.put, List.setIfInBounds_toArray, List.set_cons_zero, List.set_cons_succ]), hB, hC, hN, hD, hG, ⟨fun _ => ⟨d3, d6⟩, fun _ => rfl, hY.2.2⟩, f2, f3, f5, f6, Lib.hid (fun _ => rfl), f8, f9⟩
    · rintro L aa w h0 hd ⟨v18, v19, v21, v22, v23, v24, v5, bc, bn, g, rfl, hB, hC, hN, hD, hG, hY, f2, f3, f5, f6, f7, f8, f9⟩ K hK
      obtain rfl := f7.out (hd 7 (by kernel_rfl))
      simp only [fr, List.foldl_cons, List.foldl_nil, Act.put, List.setIfInBounds_toArray, List.set_cons_zero, List.set_cons_succ]
      have d7 := hd 7 (by kernel_rfl)
      obtain ⟨d3, d6⟩ := hY.1 d7
      have e9 : L 9 = false := by rcases h : L 9 with _ | _ <;> first | rfl | exact absurd (hY.2.2 h) (by simp [h0])
      go_simp
      exact hK _ _ ⟨v18, v19, v21, v22, (Value.agg #[.int .i64 h, .slice (some ⟨bc, 0, none⟩) n n, .slice (some ⟨bn, 0, none⟩) (2 * S) (2 * S)]), (Value.pointer (some ⟨(w.heap.size), 0, none⟩)), v5, bc, bn, w.heap.size, (by simp only [fr, List.foldl_cons, List.foldl_nil, Act.put, List.setIfInBounds_toArray, List.set_cons_zero, List.set_cons_succ]), b_alloc hB _, Lib.hid (fun l => ⟨(hC.out l).1, (hC.out l).2.alloc _⟩), Lib.hid (fun l => ⟨(hN.out l).1, (hN.out l).2.alloc _⟩), hD, Lib.hid (fun _ => ⟨hB.size, by have := (hC.out d3).2.lt; omega, by have := (hN.out d6).2.lt; omega, Vr.new w _ _⟩), ⟨hY.1, fun _ => d7, fun _ => rfl⟩, f2, f3, f5, f6, f7, Lib.hid (fun _ => rfl), Lib.hid (no_yet e9)⟩
    · rintro L aa w h0 hd ⟨v18, v19, v21, v22, v23, v24, v5, bc, bn, g, rfl, hB, hC, hN, hD, hG, hY, f2, f3, f5, f6, f7, f8, f9⟩ K hK
      obtain rfl := f8.out (hd 8 (by kernel_rfl))
      simp only [fr, List.foldl_cons, List.foldl_nil, Act.put, List.setIfInBounds_toArray, List.set_cons_zero, List.set_cons_succ]
      have d8 := hd 8 (by kernel_rfl)
      go_simp
      exact hK _ _ ⟨v18, v19, v21, v22, v23, (Value.pointer (some ⟨g, 0, none⟩)), (Value.pointer (some ⟨g, 0, none⟩)), bc, bn, g, (by simp only [fr, List.foldl_cons, List.foldl_nil, Act.put, List.setIfInBounds_toArray, List.set_cons_zero, List.set_cons_succ]), hB, hC, hN, hD, hG, ⟨hY.1, hY.2.1, fun _ => d8⟩, f2, f3, f5, f6, f7, f8, Lib.hid (fun _ => rfl)⟩
  case a34D =>
    rintro L aa w hL ⟨v18, v19, v21, v22, v23, v24, v5, bc, bn, g, rfl, hB, hC, hN, hD, hG, hY, f2, f3, f5, f6, f7, f8, f9⟩
    obtain rfl := f2.out (hL 2 (by decide))
    obtain rfl := f3.out (hL 3 (by decide))
    obtain rfl := f5.out (hL 5 (by decide))
    obtain rfl := f6.out (hL 6 (by decide))
    obtain rfl := f7.out (hL 7 (by decide))
    obtain rfl := f8.out (hL 8 (by decide))
    obtain rfl := f9.out (hL 9 (by decide))
    simp only [fr, List.foldl_cons, List.foldl_nil, Act.put, List.setIfInBounds_toArray, List.set_cons_zero, List.set_cons_succ]
    have l3 := hL 3 (by decide)
    have l6 := hL 6 (by decide)
    have l8 := hL 8 (by decide)
    obtain ⟨hc1, VC⟩ := hC.out l3
    obtain ⟨hn1, VN⟩ := hN.out l6
    obtain ⟨hg1, gc, gn, VG⟩ := hG.out l8
    have cn := hD.out l3 l6
    obtain ⟨Z, rfl⟩ : ∃ Z : World, Z = w := ⟨_, rfl⟩
    have HB := Lib.hid hB
    have HVC := Lib.hid VC
    have HVN := Lib.hid VN
    have HVG := Lib.hid VG
    have RZ := Lib.hid (RD.out.below hB (Nat.le_refl _))
    have t1 : Z.cell? ⟨g, 1, none⟩ = some (.slice (some ⟨bc, 0, none⟩) n n) := VG.cell 1
    clear hC hN hG hD hY hB VC VN VG RD M1 M2 l3 l6 l8 hL
    obtain ⟨Y, hcp, VY, OY⟩ := run_copy_all (P := Try.prog) (t := 26) (e := 3) (c := n) (c2 := c) 3 Try.underlying26 (by kernel_rfl) HVC.out (by rw [arrI_size]; simp) RZ.out (by intro u hu; obtain ⟨x, _, rfl⟩ := List.mem_map.1 hu; rfl)
    have HVY := Lib.hid VY
    have HOY := Lib.hid OY
    clear VY OY
    go_wp2
    have VGY := Lib.hid (HVG.out.only HOY.out gc)
    have VNY := Lib.hid (HVN.out.only HOY.out (fun e => cn e.symm))
    have BY := Lib.hid (HB.out.trans (HOY.out.below (B := X.heap.size) HB.out.size (fun k e => by omega)))
    have RY := Lib.hid (RZ.out.only HOY.out HB.out.size (fun k hk e => by omega))
    clear HVN HVG HB RZ HOY t1 hcp
    go_loopw [33] (fun s wr => ∃ (k : Nat) (f : Nat → Int), k ≤ n ∧ s = .int .i64 k ∧ Hid (Vr wr bn 22 (arrN (2 * S) f)) ∧ Hid (∀ j, j < k → f (S + j) = lfV cs j) ∧ Hid (Only (· = bn) Y wr)) (fun s _ => n - (intOf s).toNat)
    case atStart => exact ⟨0, fun _ => 0, by omega, rfl, VNY, Lib.hid (fun j h => absurd h (by omega)), Lib.hid (Only.refl _ _)⟩
    case round =>
      obtain ⟨k, f, hk, rfl, HV, HF, HO⟩ := hrel
      have t2 : wr.cell? ⟨g, 2, none⟩ = some (.slice (some ⟨bn, 0, none⟩) (2 * S) (2 * S)) := only_cell HO.out (VGY.out.cell 2) gn
      by_cases hlt : k < n
      · have d1 : decide ((k : Int) < (n : Int)) = true := by simp; omega
        obtain ⟨b, o, hl, rfl, hb, hcell⟩ := (RY.out.only HO.out (BY.out.size) (fun j hj e => by omega)).openMap hlt
        obtain ⟨v, hv⟩ : ∃ v, cs[k] = v := ⟨_, rfl⟩
        rw [hv] at hcell
        have HN := Lib.hid (show lfV cs k = leafI k v from by unfold lfV; rw [dif_pos hl, hv])
        clear hv hl
        go_wp2
        obtain ⟨Z2, rfl⟩ : ∃ Z2 : World, Z2 = wr := ⟨_, rfl⟩
        have E6 := Lib.hid (show IntKind.i64.wrap ((S : Int) + k) = (S : Int) + k from IntWalk.i64_in _ (by omega))
        have E10 := Lib.hid (show (0 : Int) ≤ (S : Int) + k ∧ (S : Int) + k < 2 * (S : Int) ∧ ((S : Int) + k).toNat = S + k from by omega)
        clear hcell
        refine wp_region_any (by kernel_rfl) ?_
        change wpAny _ _ _ _ _ _ _ (World.drew _)
        refine take_at (i := 0) (some 38) (v := ?vg14) rfl rfl (by kernel_rfl) (by kernel_rfl) (by kernel_rfl) (fun _ _ _ h => h) (Or.inl ⟨by rfl, ?hg14⟩) ?rg14
        case hg14 => (intro w0; go_simp; try with_reducible rfl)
        simp only [Act.put, List.setIfInBounds_toArray, List.set_cons_zero, List.set_cons_succ]
        refine take_at (i := 1) (some 39) (v := ?vg15) rfl rfl (by kernel_rfl) (by kernel_rfl) (by kernel_rfl) (fun _ _ _ h => h) (Or.inl ⟨by rfl, ?hg15⟩) ?rg15
        case hg15 => (intro w0; go_simp; try with_reducible rfl)
        simp only [Act.put, List.setIfInBounds_toArray, List.set_cons_zero, List.set_cons_succ]
        refine take_at (i := 2) (some 40) (v := ?vg16) rfl rfl (by kernel_rfl) (by kernel_rfl) (by kernel_rfl) (fun _ _ _ h => h) (Or.inl ⟨by rfl, ?hg16⟩) ?rg16
        case hg16 => (intro w0; go_simp; try with_reducible rfl)
        simp only [Act.put, List.setIfInBounds_toArray, List.set_cons_zero, List.set_cons_succ]
        refine take_at (i := 4) (some 42) (v := ?vg17) rfl rfl (by kernel_rfl) (by kernel_rfl) (by kernel_rfl) (fun _ _ _ h => h) (Or.inl ⟨by rfl, ?hg17⟩) ?rg17
        case hg17 => (intro w0; go_simp; try with_reducible rfl)
        simp only [Act.put, List.setIfInBounds_toArray, List.set_cons_zero, List.set_cons_succ]
        refine take_at (i := 5) (some 43) (v := ?vg18) rfl rfl (by kernel_rfl) (by kernel_rfl) (by kernel_rfl) (fun _ _ _ h => h) (Or.inl ⟨by rfl, ?hg18⟩) ?rg18
        case hg18 => (intro w0; go_simp; try with_reducible rfl)
        simp only [Act.put, List.setIfInBounds_toArray, List.set_cons_zero, List.set_cons_succ]
        refine take_at (i := 7) (some 45) (v := ?vg19) rfl rfl (by kernel_rfl) (by kernel_rfl) (by kernel_rfl) (fun _ _ _ h => h) (Or.inl ⟨by rfl, ?hg19⟩) ?rg19
        case hg19 => (intro w0; go_simp; try with_reducible rfl)
        simp only [Act.put, List.setIfInBounds_toArray, List.set_cons_zero, List.set_cons_succ]
        refine take_at (i := 8) (some 46) (v := ?vg20) rfl rfl (by kernel_rfl) (by kernel_rfl) (by kernel_rfl) (fun _ _ _ h => h) (Or.inl ⟨by rfl, ?hg20⟩) ?rg20
        case hg20 => (intro w0; go_simp; try with_reducible rfl)
        simp only [Act.put, List.setIfInBounds_toArray, List.set_cons_zero, List.set_cons_succ]
        refine wpAny_go (fun A0 L aa w => ∃ (v41 v44 v47 v48 : Value), aa = fr A0 [(41, v41), (44, v44), (47, v47), (48, v48)] ∧ (Only (· = bn) Z2 w) ∧ (Hid ((L 11 = false → Vr w bn 22 (arrN (2 * S) f)) ∧ (L 11 = true → Vr w bn 22 (arrN (2 * S) (updF f (S + k) (leafI k v)))))) ∧ Hid (L 3 = true → v41 = Value.slice (some ⟨bn, 0, none⟩) (2 * S) (2 * S)) ∧ Hid (L 6 = true → v44 = Value.int .i64 ((S : Int) + k)) ∧ Hid (L 9 = true → v47 = Value.int .u64 (leafI k v)) ∧ Hid (L 10 = true → v48 = Value.pointer (some ⟨bn, S + k, none⟩))) [3, 6, 9, 10, 11] (by kernel_rfl) (by kernel_rfl) ?a13I ?a13S ?a13D
        case a13I =>
          refine ⟨?a13v41, ?a13v44, ?a13v47, ?a13v48, ?a13fr, o_drew (Only.refl _ _), Lib.hid ⟨fun _ => HV.out.drew, no_yet (by kernel_rfl)⟩, Lib.hid (no_yet (by kernel_rfl)), Lib.hid (no_yet (by kernel_rfl)), Lib.hid (no_yet (by kernel_rfl)), Lib.hid (no_yet (by kernel_rfl))⟩
          case a13fr => (simp only [fr, List.foldl_cons, List.foldl_nil, Act.put, List.setIfInBounds_toArray, List.set_cons_zero, List.set_cons_succ]; rfl)
        case a13S =>
          refine Steps.go (i := 3) (o := _) rfl ?a13s3 (Steps.go (i := 6) (o := _) rfl ?a13s6 (Steps.go (i := 9) (o := _) rfl ?a13s9 (Steps.go (i := 10) (o := _) rfl ?a13s10 (Steps.go (i := 11) (o := _) rfl ?a13s11 Steps.nil))))
          · rintro L aa w h0 hd ⟨v41, v44, v47, v48, rfl, hO2, hV2, f3, f6, f9, f10⟩ K hK
            simp only [fr, List.foldl_cons, List.foldl_nil, Act.put, List.setIfInBounds_toArray, List.set_cons_zero, List.set_cons_succ]
            have x := only_cell hO2 t2 gn
            go_simp
            exact hK _ _ ⟨(Value.slice (some ⟨bn, 0, none⟩) (2 * S) (2 * S)), v44, v47, v48, (by simp only [fr, List.foldl_cons, List.foldl_nil, Act.put, List.setIfInBounds_toArray, List.set_cons_zero, List.set_cons_succ]), hO2, hV2, Lib.hid (fun _ => rfl), f6, f9, f10⟩
          · rintro L aa w h0 hd ⟨v41, v44, v47, v48, rfl, hO2, hV2, f3, f6, f9, f10⟩ K hK
            simp only [fr, List.foldl_cons, List.foldl_nil, Act.put, List.setIfInBounds_toArray, List.set_cons_zero, List.set_cons_succ]
            have x := E6.out
            go_simp
            exact hK _ _ ⟨v41, (Value.int .i64 ((S : Int) + k)), v47, v48, (by simp only [fr, List.foldl_cons, List.foldl_nil, Act.put, List.setIfInBounds_toArray, List.set_cons_zero, List.set_cons_succ]), hO2, hV2, f3, Lib.hid (fun _ => rfl), f9, f10⟩
          · rintro L aa w h0 hd ⟨v41, v44, v47, v48, rfl, hO2, hV2, f3, f6, f9, f10⟩ K hK
            simp only [fr, List.foldl_cons, List.foldl_nil, Act.put, List.setIfInBounds_toArray, List.set_cons_zero, List.set_cons_succ]
            go_simp
            refine (leafHash_any k v _).mono ?_
            rintro e w3 ⟨rfl, hb3⟩
            exact hK _ _ ⟨v41, v44, (Value.int .u64 (leafI k v)), v48, (by simp only [fr, List.foldl_cons, List.foldl_nil, Act.put, List.setIfInBounds_toArray, List.set_cons_zero, List.set_cons_succ]), o_below hO2 hb3, Lib.hid ⟨fun h => (hV2.out.1 h).call hb3, fun h => (hV2.out.2 h).call hb3⟩, f3, f6, Lib.hid (fun _ => rfl), f10⟩
          · rintro L aa w h0 hd ⟨v41, v44, v47, v48, rfl, hO2, hV2, f3, f6, f9, f10⟩ K hK
            obtain rfl := f3.out (hd 3 (by kernel_rfl))
            obtain rfl := f6.out (hd 6 (by kernel_rfl))
            simp only [fr, List.foldl_cons, List.foldl_nil, Act.put, List.setIfInBounds_toArray, List.set_cons_zero, List.set_cons_succ]
            obtain ⟨x1, x2, x3⟩ := E10.out
            go_simp
            exact hK _ _ ⟨(Value.slice (some ⟨bn, 0, none⟩) (2 * S) (2 * S)), (Value.int .i64 ((S : Int) + k)), v47, (Value.pointer (some ⟨bn, S + k, none⟩)), (by simp only [fr, List.foldl_cons, List.foldl_nil, Act.put, List.setIfInBounds_toArray, List.set_cons_zero, List.set_cons_succ]), hO2, hV2, f3, f6, f9, Lib.hid (fun _ => rfl)⟩
          · rintro L aa w h0 hd ⟨v41, v44, v47, v48, rfl, hO2, hV2, f3, f6, f9, f10⟩ K hK
            obtain rfl := f9.out (hd 9 (by kernel_rfl))
            obtain rfl := f10.out (hd 10 (by kernel_rfl))
            simp only [fr, List.foldl_cons, List.foldl_nil, Act.put, List.setIfInBounds_toArray, List.set_cons_zero, List.set_cons_succ]
            have v0 := hV2.out.1 h0
            have HV0 := Lib.hid v0
            have y0 : w.cell? ⟨bn, S + k, none⟩ = some (.int .u64 (f (S + k))) := by rw [v0.cell]; exact arrN_get f (by omega)
            have y1 := v0.frozen (S + k)
            clear v0
            go_simp
            exact hK _ _ ⟨v41, v44, (Value.int .u64 (leafI k v)), (Value.pointer (some ⟨bn, S + k, none⟩)), (by simp only [fr, List.foldl_cons, List.foldl_nil, Act.put, List.setIfInBounds_toArray, List.set_cons_zero, List.set_cons_succ]), o_set hO2 _ _, Lib.hid ⟨(fun h => by cases h), fun _ => by rw [← arrN_set]; exact HV0.out.set _ _⟩, f3, f6, f9, f10⟩
        case a13D =>
          rintro L aa w hL ⟨v41, v44, v47, v48, rfl, hO2, hV2, f3, f6, f9, f10⟩
          obtain rfl := f3.out (hL 3 (by decide))
          obtain rfl := f6.out (hL 6 (by decide))
          obtain rfl := f9.out (hL 9 (by decide))
          obtain rfl := f10.out (hL 10 (by decide))
          have l11 := hL 11 (by decide)
          simp only [fr, List.foldl_cons, List.foldl_nil, Act.put, List.setIfInBounds_toArray, List.set_cons_zero, List.set_cons_succ]
          go_wp2
          go_roundw
          case rel => exact ⟨k + 1, _, by omega, by go_num, Lib.hid (hV2.out.2 l11), Lib.hid (fun j hj => by
            unfold updF
            by_cases hjk : j = k
            · subst hjk
              rw [if_pos rfl, HN.out]
            · rw [if_neg (by omega)]
              exact HF.out j (by omega)), Lib.hid (HO.out.trans hO2)⟩
          case measure => simp [intOf]; omega
      · obtain rfl : k = n := by omega
        have d1 : decide ((k : Int) < (k : Int)) = false := by simp
        go_wp2_with fail
        refine (empty_any _).mono ?_
        rintro e w5 ⟨rfl, hb5⟩
        have O5 := Lib.hid (of_below HO.out hb5)
        have V5 := Lib.hid (HV.out.call hb5)
        clear HO HV hb5 t2 RY hlt hk d1
        go_wp2
        go_loopw [9] (fun s wr => ∃ (i : Nat) (f : Nat → Int), k ≤ i ∧ i ≤ S ∧ s = .int .i64 i ∧ Hid (Vr wr bn 22 (arrN (2 * S) f)) ∧ Hid (∀ j, j < i → f (S + j) = lfV cs j) ∧ Hid (Only (· = bn) Y wr)) (fun s _ => S - (intOf s).toNat)
        case atStart => exact ⟨k, f, by omega, by omega, rfl, V5, HF, O5⟩
        case round =>
          obtain ⟨i, f, hk1, hk2, rfl, HV, HF, HO⟩ := hrel
          have t2 : wr.cell? ⟨g, 2, none⟩ = some (.slice (some ⟨bn, 0, none⟩) (2 * S) (2 * S)) := only_cell HO.out (VGY.out.cell 2) gn
          by_cases hlt : i < S
          · have d1 : decide ((i : Int) < (S : Int)) = true := by simp; omega
            have y0 : wr.cell? ⟨bn, S + i, none⟩ = some (.int .u64 (f (S + i))) := by rw [HV.out.cell]; exact arrN_get f (by omega)
            have y1 := HV.out.frozen (S + i)
            have HE := Lib.hid (lfV_out (cs := cs) (i := i) (by rw [HL.out]; omega))
            go_wp2
            go_roundw
            case rel => exact ⟨i + 1, updF f (S + i) emptyI, by omega, by omega, by go_num, Lib.hid (by rw [← arrN_set]; exact HV.out.set _ _), Lib.hid (fun j hj => by
              unfold updF
              by_cases hjk : j = i
              · subst hjk
                rw [if_pos rfl, HE.out]
              · rw [if_neg (by omega)]
                exact HF.out j (by omega)), Lib.hid (o_set HO.out _ _)⟩
            case measure => simp [intOf]; omega
          · obtain rfl : i = S := by omega
            have d1 : decide ((i : Int) < (i : Int)) = false := by simp
            have HG0 := Lib.hid (good_leaves (cs := cs) (h := h) (f := f) (by rw [HS.out]; exact HF.out))
            rw [HS.out] at HG0
            clear hlt hk1 hk2
            go_wp2
            go_loopw [10] (fun s wr => ∃ (t : Nat) (f : Nat → Int), t < i ∧ s = .int .i64 t ∧ Hid (Vr wr bn 22 (arrN (2 * i) f)) ∧ Hid (Good cs h f (t + 1)) ∧ Hid (Only (· = bn) Y wr)) (fun s _ => (intOf s).toNat)
            case atStart => exact ⟨i - 1, f, by omega, by go_num, HV, Lib.hid (by rw [show i - 1 + 1 = i from by omega]; exact HG0.out), HO⟩
            case round =>
              clear HF HV HO t2 HG0
              obtain ⟨t, f, ht, rfl, HV, HG, HO⟩ := hrel
              have t2 : wr.cell? ⟨g, 2, none⟩ = some (.slice (some ⟨bn, 0, none⟩) (2 * i) (2 * i)) := only_cell HO.out (VGY.out.cell 2) gn
              by_cases hlt : 1 ≤ t
              · have d2 : decide (1 ≤ (t : Int)) = true := by simp; omega
                obtain ⟨Z2, rfl⟩ : ∃ Z2 : World, Z2 = wr := ⟨_, rfl⟩
                have HU := Lib.hid (HG.out.up (by rw [HS.out]; exact ht) hlt)
                go_wp2
                have E10 := Lib.hid (show IntKind.i64.wrap (2 * (t : Int)) = 2 * (t : Int) from IntWalk.i64_in _ (by omega))
                have E19 := Lib.hid (show IntKind.i64.wrap (2 * (t : Int) + 1) = 2 * (t : Int) + 1 from IntWalk.i64_in _ (by omega))
                have E11 := Lib.hid (show (0 : Int) ≤ 2 * (t : Int) ∧ 2 * (t : Int) < 2 * (i : Int) ∧ (2 * (t : Int)).toNat = 2 * t from by omega)
                have E20 := Lib.hid (show (0 : Int) ≤ 2 * (t : Int) + 1 ∧ 2 * (t : Int) + 1 < 2 * (i : Int) ∧ (2 * (t : Int) + 1).toNat = 2 * t + 1 from by omega)
                have E23 := Lib.hid (show (0 : Int) ≤ (t : Int) ∧ (t : Int) < 2 * (i : Int) from by omega)
                refine wp_region_any (by kernel_rfl) ?_
                change wpAny _ _ _ _ _ _ _ (World.drew _)
                refine take_at (i := 0) (some 73) (v := ?vg22) rfl rfl (by kernel_rfl) (by kernel_rfl) (by kernel_rfl) (fun _ _ _ h => h) (Or.inl ⟨by rfl, ?hg22⟩) ?rg22
                case hg22 => (intro w0; go_simp; try with_reducible rfl)
                simp only [Act.put, List.setIfInBounds_toArray, List.set_cons_zero, List.set_cons_succ]
                refine take_at (i := 1) (some 74) (v := ?vg23) rfl rfl (by kernel_rfl) (by kernel_rfl) (by kernel_rfl) (fun _ _ _ h => h) (Or.inl ⟨by rfl, ?hg23⟩) ?rg23
                case hg23 => (intro w0; go_simp; try with_reducible rfl)
                simp only [Act.put, List.setIfInBounds_toArray, List.set_cons_zero, List.set_cons_succ]
                refine take_at (i := 2) (some 75) (v := ?vg24) rfl rfl (by kernel_rfl) (by kernel_rfl) (by kernel_rfl) (fun _ _ _ h => h) (Or.inl ⟨by rfl, ?hg24⟩) ?rg24
                case hg24 => (intro w0; go_simp; try with_reducible rfl)
                simp only [Act.put, List.setIfInBounds_toArray, List.set_cons_zero, List.set_cons_succ]
                refine take_at (i := 4) (some 77) (v := ?vg25) rfl rfl (by kernel_rfl) (by kernel_rfl) (by kernel_rfl) (fun _ _ _ h => h) (Or.inl ⟨by rfl, ?hg25⟩) ?rg25
                case hg25 => (intro w0; go_simp; try with_reducible rfl)
                simp only [Act.put, List.setIfInBounds_toArray, List.set_cons_zero, List.set_cons_succ]
                refine take_at (i := 5) (some 78) (v := ?vg26) rfl rfl (by kernel_rfl) (by kernel_rfl) (by kernel_rfl) (fun _ _ _ h => h) (Or.inl ⟨by rfl, ?hg26⟩) ?rg26
                case hg26 => (intro w0; go_simp; try with_reducible rfl)
                simp only [Act.put, List.setIfInBounds_toArray, List.set_cons_zero, List.set_cons_succ]
                refine take_at (i := 6) (some 79) (v := ?vg27) rfl rfl (by kernel_rfl) (by kernel_rfl) (by kernel_rfl) (fun _ _ _ h => h) (Or.inl ⟨by rfl, ?hg27⟩) ?rg27
                case hg27 => (intro w0; go_simp; try with_reducible rfl)
                simp only [Act.put, List.setIfInBounds_toArray, List.set_cons_zero, List.set_cons_succ]
                refine take_at (i := 7) (some 80) (v := ?vg28) rfl rfl (by kernel_rfl) (by kernel_rfl) (by kernel_rfl) (fun _ _ _ h => h) (Or.inl ⟨by rfl, ?hg28⟩) ?rg28
                case hg28 => (intro w0; go_simp; try with_reducible rfl)
                simp only [Act.put, List.setIfInBounds_toArray, List.set_cons_zero, List.set_cons_succ]
                refine take_at (i := 9) (some 82) (v := ?vg29) rfl rfl (by kernel_rfl) (by kernel_rfl) (by kernel_rfl) (fun _ _ _ h => h) (Or.inl ⟨by rfl, ?hg29⟩) ?rg29
                case hg29 => (intro w0; go_simp; try with_reducible rfl)
                simp only [Act.put, List.setIfInBounds_toArray, List.set_cons_zero, List.set_cons_succ]
                refine take_at (i := 13) (some 86) (v := ?vg30) rfl rfl (by kernel_rfl) (by kernel_rfl) (by kernel_rfl) (fun _ _ _ h => h) (Or.inl ⟨by rfl, ?hg30⟩) ?rg30
                case hg30 => (intro w0; go_simp; try with_reducible rfl)
                simp only [Act.put, List.setIfInBounds_toArray, List.set_cons_zero, List.set_cons_succ]
                refine take_at (i := 14) (some 87) (v := ?vg31) rfl rfl (by kernel_rfl) (by kernel_rfl) (by kernel_rfl) (fun _ _ _ h => h) (Or.inl ⟨by rfl, ?hg31⟩) ?rg31
                case hg31 => (intro w0; go_simp; try with_reducible rfl)
                simp only [Act.put, List.setIfInBounds_toArray, List.set_cons_zero, List.set_cons_succ]
                refine take_at (i := 15) (some 88) (v := ?vg32) rfl rfl (by kernel_rfl) (by kernel_rfl) (by kernel_rfl) (fun _ _ _ h => h) (Or.inl ⟨by rfl, ?hg32⟩) ?rg32
                case hg32 => (intro w0; go_simp; try with_reducible rfl)
                simp only [Act.put, List.setIfInBounds_toArray, List.set_cons_zero, List.set_cons_succ]
                refine take_at (i := 17) (some 90) (v := ?vg33) rfl rfl (by kernel_rfl) (by kernel_rfl) (by kernel_rfl) (fun _ _ _ h => h) (Or.inl ⟨by rfl, ?hg33⟩) ?rg33
                case hg33 => (intro w0; go_simp; try with_reducible rfl)
                simp only [Act.put, List.setIfInBounds_toArray, List.set_cons_zero, List.set_cons_succ]
                refine wpAny_go (fun A0 L aa w => ∃ (v76 v81 v83 v84 v85 v89 v91 v92 v93 v94 v95 v96 : Value), aa = fr A0 [(76, v76), (81, v81), (83, v83), (84, v84), (85, v85), (89, v89), (91, v91), (92, v92), (93, v93), (94, v94), (95, v95), (96, v96)] ∧ (L 24 = true → L 12 = true ∧ L 21 = true) ∧ (Only (· = bn) Z2 w) ∧ (Hid ((L 24 = false → Vr w bn 22 (arrN (2 * i) f)) ∧ (L 24 = true → Vr w bn 22 (arrN (2 * i) (updF f t (prI (f (2 * t)) (f (2 * t + 1)))))))) ∧ Hid (L 3 = true → v76 = Value.slice (some ⟨bn, 0, none⟩) (2 * i) (2 * i)) ∧ Hid (L 8 = true → v81 = Value.slice (some ⟨bn, 0, none⟩) (2 * i) (2 * i)) ∧ Hid (L 10 = true → v83 = Value.int .i64 (2 * (t : Int))) ∧ Hid (L 11 = true → v84 = Value.pointer (some ⟨bn, 2 * t, none⟩)) ∧ Hid (L 12 = true → v85 = Value.int .u64 (f (2 * t))) ∧ Hid (L 16 = true → v89 = Value.slice (some ⟨bn, 0, none⟩) (2 * i) (2 * i)) ∧ Hid (L 18 = true → v91 = Value.int .i64 (2 * (t : Int))) ∧ Hid (L 19 = true → v92 = Value.int .i64 (2 * (t : Int) + 1)) ∧ Hid (L 20 = true → v93 = Value.pointer (some ⟨bn, 2 * t + 1, none⟩)) ∧ Hid (L 21 = true → v94 = Value.int .u64 (f (2 * t + 1))) ∧ Hid (L 22 = true → v95 = Value.int .u64 (prI (f (2 * t)) (f (2 * t + 1)))) ∧ Hid (L 23 = true → v96 = Value.pointer (some ⟨bn, t, none⟩))) [3, 8, 10, 11, 12, 16, 18, 19, 20, 21, 22, 23, 24] (by kernel_rfl) (by kernel_rfl) ?a21I ?a21S ?a21D
                case a21I =>
                  refine ⟨?a21v76, ?a21v81, ?a21v83, ?a21v84, ?a21v85, ?a21v89, ?a21v91, ?a21v92, ?a21v93, ?a21v94, ?a21v95, ?a21v96, ?a21fr, no_yet (by kernel_rfl), o_drew (Only.refl _ _), Lib.hid ⟨fun _ => HV.out.drew, no_yet (by kernel_rfl)⟩, Lib.hid (no_yet (by kernel_rfl)), Lib.hid (no_yet (by kernel_rfl)), Lib.hid (no_yet (by kernel_rfl)), Lib.hid (no_yet (by kernel_rfl)), Lib.hid (no_yet (by kernel_rfl)), Lib.hid (no_yet (by kernel_rfl)), Lib.hid (no_yet (by kernel_rfl)), Lib.hid (no_yet (by kernel_rfl)), Lib.hid (no_yet (by kernel_rfl)), Lib.hid (no_yet (by kernel_rfl)), Lib.hid (no_yet (by kernel_rfl)), Lib.hid (no_yet (by kernel_rfl))⟩
                  case a21fr => (simp only [fr, List.foldl_cons, List.foldl_nil, Act.put, List.setIfInBounds_toArray, List.set_cons_zero, List.set_cons_succ]; rfl)
                case a21S =>
                  refine Steps.go (i := 3) (o := _) rfl ?a21s3 (Steps.go (i := 8) (o := _) rfl ?a21s8 (Steps.go (i := 10) (o := _) rfl ?a21s10 (Steps.go (i := 11) (o := _) rfl ?a21s11 (Steps.go (i := 12) (o := _) rfl ?a21s12 (Steps.go (i := 16) (o := _) rfl ?a21s16 (Steps.go (i := 18) (o := _) rfl ?a21s18 (Steps.go (i := 19) (o := _) rfl ?a21s19 (Steps.go (i := 20) (o := _) rfl ?a21s20 (Steps.go (i := 21) (o := _) rfl ?a21s21 (Steps.go (i := 22) (o := _) rfl ?a21s22 (Steps.go (i := 23) (o := _) rfl ?a21s23 (Steps.go (i := 24) (o := _) rfl ?a21s24 Steps.nil))))))))))))
                  · rintro L aa w h0 hd ⟨v76, v81, v83, v84, v85, v89, v91, v92, v93, v94, v95, v96, rfl, hY, hO2, hV2, f3, f8, f10, f11, f12, f16, f18, f19, f20, f21, f22, f23⟩ K hK
                    simp only [fr, List.foldl_cons, List.foldl_nil, Act.put, List.setIfInBounds_toArray, List.set_cons_zero, List.set_cons_succ]
                    have x := only_cell hO2 t2 gn
                    go_simp
                    exact hK _ _ ⟨(Value.slice (some ⟨bn, 0, none⟩) (2 * i) (2 * i)), v81, v83, v84, v85, v89, v91, v92, v93, v94, v95, v96, (by simp only [fr, List.foldl_cons, List.foldl_nil, Act.put, List.setIfInBounds_toArray, List.set_cons_zero, List.set_cons_succ]), hY, hO2, hV2, Lib.hid (fun _ => rfl), f8, f10, f11, f12, f16, f18, f19, f20, f21, f22, f23⟩
                  · rintro L aa w h0 hd ⟨v76, v81, v83, v84, v85, v89, v91, v92, v93, v94, v95, v96, rfl, hY, hO2, hV2, f3, f8, f10, f11, f12, f16, f18, f19, f20, f21, f22, f23⟩ K hK
                    simp only [fr, List.foldl_cons, List.foldl_nil, Act.put, List.setIfInBounds_toArray, List.set_cons_zero, List.set_cons_succ]
                    have x := only_cell hO2 t2 gn
                    go_simp
                    exact hK _ _ ⟨v76, (Value.slice (some ⟨bn, 0, none⟩) (2 * i) (2 * i)), v83, v84, v85, v89, v91, v92, v93, v94, v95, v96, (by simp only [fr, List.foldl_cons, List.foldl_nil, Act.put, List.setIfInBounds_toArray, List.set_cons_zero, List.set_cons_succ]), hY, hO2, hV2, f3, Lib.hid (fun _ => rfl), f10, f11, f12, f16, f18, f19, f20, f21, f22, f23⟩
                  · rintro L aa w h0 hd ⟨v76, v81, v83, v84, v85, v89, v91, v92, v93, v94, v95, v96, rfl, hY, hO2, hV2, f3, f8, f10, f11, f12, f16, f18, f19, f20, f21, f22, f23⟩ K hK
                    simp only [fr, List.foldl_cons, List.foldl_nil, Act.put, List.setIfInBounds_toArray, List.set_cons_zero, List.set_cons_succ]
                    have x := E10.out
                    go_simp
                    exact hK _ _ ⟨v76, v81, (Value.int .i64 (2 * (t : Int))), v84, v85, v89, v91, v92, v93, v94, v95, v96, (by simp only [fr, List.foldl_cons, List.foldl_nil, Act.put, List.setIfInBounds_toArray, List.set_cons_zero, List.set_cons_succ]), hY, hO2, hV2, f3, f8, Lib.hid (fun _ => rfl), f11, f12, f16, f18, f19, f20, f21, f22, f23⟩
                  · rintro L aa w h0 hd ⟨v76, v81, v83, v84, v85, v89, v91, v92, v93, v94, v95, v96, rfl, hY, hO2, hV2, f3, f8, f10, f11, f12, f16, f18, f19, f20, f21, f22, f23⟩ K hK
                    obtain rfl := f8.out (hd 8 (by kernel_rfl))
                    obtain rfl := f10.out (hd 10 (by kernel_rfl))
                    simp only [fr, List.foldl_cons, List.foldl_nil, Act.put, List.setIfInBounds_toArray, List.set_cons_zero, List.set_cons_succ]
                    obtain ⟨x1, x2, x3⟩ := E11.out
                    go_simp
                    exact hK _ _ ⟨v76, (Value.slice (some ⟨bn, 0, none⟩) (2 * i) (2 * i)), (Value.int .i64 (2 * (t : Int))), (Value.pointer (some ⟨bn, 2 * t, none⟩)), v85, v89, v91, v92, v93, v94, v95, v96, (by simp only [fr, List.foldl_cons, List.foldl_nil, Act.put, List.setIfInBounds_toArray, List.set_cons_zero, List.set_cons_succ]), hY, hO2, hV2, f3, f8, f10, Lib.hid (fun _ => rfl), f12, f16, f18, f19, f20, f21, f22, f23⟩
                  · rintro L aa w h0 hd ⟨v76, v81, v83, v84, v85, v89, v91, v92, v93, v94, v95, v96, rfl, hY, hO2, hV2, f3, f8, f10, f11, f12, f16, f18, f19, f20, f21, f22, f23⟩ K hK
                    obtain rfl := f11.out (hd 11 (by kernel_rfl))
                    simp only [fr, List.foldl_cons, List.foldl_nil, Act.put, List.setIfInBounds_toArray, List.set_cons_zero, List.set_cons_succ]
                    have e24 : L 24 = false := by rcases h : L 24 with _ | _ <;> first | rfl | exact absurd (hY h).1 (by simp [h0])
                    have y0 : w.cell? ⟨bn, 2 * t, none⟩ = some (.int .u64 (f (2 * t))) := by rw [(hV2.out.1 e24).cell]; exact arrN_get f (by omega)
                    go_simp
                    exact hK _ _ ⟨v76, v81, v83, (Value.pointer (some ⟨bn, 2 * t, none⟩)), (Value.int .u64 (f (2 * t))), v89, v91, v92, v93, v94, v95, v96, (by simp only [fr, List.foldl_cons, List.foldl_nil, Act.put, List.setIfInBounds_toArray, List.set_cons_zero, List.set_cons_succ]), fun h => ⟨rfl, (hY h).2⟩, hO2, hV2, f3, f8, f10, f11, Lib.hid (fun _ => rfl), f16, f18, f19, f20, f21, f22, f23⟩
                  · rintro L aa w h0 hd ⟨v76, v81, v83, v84, v85, v89, v91, v92, v93, v94, v95, v96, rfl, hY, hO2, hV2, f3, f8, f10, f11, f12, f16, f18, f19, f20, f21, f22, f23⟩ K hK
                    simp only [fr, List.foldl_cons, List.foldl_nil, Act.put, List.setIfInBounds_toArray, List.set_cons_zero, List.set_cons_succ]
                    have x := only_cell hO2 t2 gn
                    go_simp
                    exact hK _ _ ⟨v76, v81, v83, v84, v85, (Value.slice (some ⟨bn, 0, none⟩) (2 * i) (2 * i)), v91, v92, v93, v94, v95, v96, (by simp only [fr, List.foldl_cons, List.foldl_nil, Act.put, List.setIfInBounds_toArray, List.set_cons_zero, List.set_cons_succ]), hY, hO2, hV2, f3, f8, f10, f11, f12, Lib.hid (fun _ => rfl), f18, f19, f20, f21, f22, f23⟩
                  · rintro L aa w h0 hd ⟨v76, v81, v83, v84, v85, v89, v91, v92, v93, v94, v95, v96, rfl, hY, hO2, hV2, f3, f8, f10, f11, f12, f16, f18, f19, f20, f21, f22, f23⟩ K hK
                    simp only [fr, List.foldl_cons, List.foldl_nil, Act.put, List.setIfInBounds_toArray, List.set_cons_zero, List.set_cons_succ]
                    have x := E10.out
                    go_simp
                    exact hK _ _ ⟨v76, v81, v83, v84, v85, v89, (Value.int .i64 (2 * (t : Int))), v92, v93, v94, v95, v96, (by simp only [fr, List.foldl_cons, List.foldl_nil, Act.put, List.setIfInBounds_toArray, List.set_cons_zero, List.set_cons_succ]), hY, hO2, hV2, f3, f8, f10, f11, f12, f16, Lib.hid (fun _ => rfl), f19, f20, f21, f22, f23⟩
                  · rintro L aa w h0 hd ⟨v76, v81, v83, v84, v85, v89, v91, v92, v93, v94, v95, v96, rfl, hY, hO2, hV2, f3, f8, f10, f11, f12, f16, f18, f19, f20, f21, f22, f23⟩ K hK
                    obtain rfl := f18.out (hd 18 (by kernel_rfl))
                    simp only [fr, List.foldl_cons, List.foldl_nil, Act.put, List.setIfInBounds_toArray, List.set_cons_zero, List.set_cons_succ]
                    have x := E19.out
                    go_simp
                    exact hK _ _ ⟨v76, v81, v83, v84, v85, v89, (Value.int .i64 (2 * (t : Int))), (Value.int .i64 (2 * (t : Int) + 1)), v93, v94, v95, v96, (by simp only [fr, List.foldl_cons, List.foldl_nil, Act.put, List.setIfInBounds_toArray, List.set_cons_zero, List.set_cons_succ]), hY, hO2, hV2, f3, f8, f10, f11, f12, f16, f18, Lib.hid (fun _ => rfl), f20, f21, f22, f23⟩
                  · rintro L aa w h0 hd ⟨v76, v81, v83, v84, v85, v89, v91, v92, v93, v94, v95, v96, rfl, hY, hO2, hV2, f3, f8, f10, f11, f12, f16, f18, f19, f20, f21, f22, f23⟩ K hK
                    obtain rfl := f16.out (hd 16 (by kernel_rfl))
                    obtain rfl := f19.out (hd 19 (by kernel_rfl))
                    simp only [fr, List.foldl_cons, List.foldl_nil, Act.put, List.setIfInBounds_toArray, List.set_cons_zero, List.set_cons_succ]
                    obtain ⟨x1, x2, x3⟩ := E20.out
                    go_simp
                    exact hK _ _ ⟨v76, v81, v83, v84, v85, (Value.slice (some ⟨bn, 0, none⟩) (2 * i) (2 * i)), v91, (Value.int .i64 (2 * (t : Int) + 1)), (Value.pointer (some ⟨bn, 2 * t + 1, none⟩)), v94, v95, v96, (by simp only [fr, List.foldl_cons, List.foldl_nil, Act.put, List.setIfInBounds_toArray, List.set_cons_zero, List.set_cons_succ]), hY, hO2, hV2, f3, f8, f10, f11, f12, f16, f18, f19, Lib.hid (fun _ => rfl), f21, f22, f23⟩
                  · rintro L aa w h0 hd ⟨v76, v81, v83, v84, v85, v89, v91, v92, v93, v94, v95, v96, rfl, hY, hO2, hV2, f3, f8, f10, f11, f12, f16, f18, f19, f20, f21, f22, f23⟩ K hK
                    obtain rfl := f20.out (hd 20 (by kernel_rfl))
                    simp only [fr, List.foldl_cons, List.foldl_nil, Act.put, List.setIfInBounds_toArray, List.set_cons_zero, List.set_cons_succ]
                    have e24 : L 24 = false := by rcases h : L 24 with _ | _ <;> first | rfl | exact absurd (hY h).2 (by simp [h0])
                    have y0 : w.cell? ⟨bn, 2 * t + 1, none⟩ = some (.int .u64 (f (2 * t + 1))) := by rw [(hV2.out.1 e24).cell]; exact arrN_get f (by omega)
                    go_simp
                    exact hK _ _ ⟨v76, v81, v83, v84, v85, v89, v91, v92, (Value.pointer (some ⟨bn, 2 * t + 1, none⟩)), (Value.int .u64 (f (2 * t + 1))), v95, v96, (by simp only [fr, List.foldl_cons, List.foldl_nil, Act.put, List.setIfInBounds_toArray, List.set_cons_zero, List.set_cons_succ]), fun h => ⟨(hY h).1, rfl⟩, hO2, hV2, f3, f8, f10, f11, f12, f16, f18, f19, f20, Lib.hid (fun _ => rfl), f22, f23⟩
                  · rintro L aa w h0 hd ⟨v76, v81, v83, v84, v85, v89, v91, v92, v93, v94, v95, v96, rfl, hY, hO2, hV2, f3, f8, f10, f11, f12, f16, f18, f19, f20, f21, f22, f23⟩ K hK
                    obtain rfl := f12.out (hd 12 (by kernel_rfl))
                    obtain rfl := f21.out (hd 21 (by kernel_rfl))
                    simp only [fr, List.foldl_cons, List.foldl_nil, Act.put, List.setIfInBounds_toArray, List.set_cons_zero, List.set_cons_succ]
                    go_simp
                    refine (pr_any _ _ _).mono ?_
                    rintro e w3 ⟨rfl, hb3⟩
                    exact hK _ _ ⟨v76, v81, v83, v84, (Value.int .u64 (f (2 * t))), v89, v91, v92, v93, (Value.int .u64 (f (2 * t + 1))), (Value.int .u64 (prI (f (2 * t)) (f (2 * t + 1)))), v96, (by simp only [fr, List.foldl_cons, List.foldl_nil, Act.put, List.setIfInBounds_toArray, List.set_cons_zero, List.set_cons_succ]), hY, o_below hO2 hb3, Lib.hid ⟨fun h => (hV2.out.1 h).call hb3, fun h => (hV2.out.2 h).call hb3⟩, f3, f8, f10, f11, f12, f16, f18, f19, f20, f21, Lib.hid (fun _ => rfl), f23⟩
                  · rintro L aa w h0 hd ⟨v76, v81, v83, v84, v85, v89, v91, v92, v93, v94, v95, v96, rfl, hY, hO2, hV2, f3, f8, f10, f11, f12, f16, f18, f19, f20, f21, f22, f23⟩ K hK
                    obtain rfl := f3.out (hd 3 (by kernel_rfl))
                    simp only [fr, List.foldl_cons, List.foldl_nil, Act.put, List.setIfInBounds_toArray, List.set_cons_zero, List.set_cons_succ]
                    obtain ⟨x1, x2⟩ := E23.out
                    go_simp
                    exact hK _ _ ⟨(Value.slice (some ⟨bn, 0, none⟩) (2 * i) (2 * i)), v81, v83, v84, v85, v89, v91, v92, v93, v94, v95, (Value.pointer (some ⟨bn, t, none⟩)), (by simp only [fr, List.foldl_cons, List.foldl_nil, Act.put, List.setIfInBounds_toArray, List.set_cons_zero, List.set_cons_succ]), hY, hO2, hV2, f3, f8, f10, f11, f12, f16, f18, f19, f20, f21, f22, Lib.hid (fun _ => rfl)⟩
                  · rintro L aa w h0 hd ⟨v76, v81, v83, v84, v85, v89, v91, v92, v93, v94, v95, v96, rfl, hY, hO2, hV2, f3, f8, f10, f11, f12, f16, f18, f19, f20, f21, f22, f23⟩ K hK
                    obtain rfl := f22.out (hd 22 (by kernel_rfl))
                    obtain rfl := f23.out (hd 23 (by kernel_rfl))
                    simp only [fr, List.foldl_cons, List.foldl_nil, Act.put, List.setIfInBounds_toArray, List.set_cons_zero, List.set_cons_succ]
                    have v0 := hV2.out.1 h0
                    have HV0 := Lib.hid v0
                    have y0 : w.cell? ⟨bn, t, none⟩ = some (.int .u64 (f t)) := by rw [v0.cell]; exact arrN_get f (by omega)
                    have y1 := v0.frozen t
                    clear v0
                    go_simp
                    exact hK _ _ ⟨v76, v81, v83, v84, v85, v89, v91, v92, v93, v94, (Value.int .u64 (prI (f (2 * t)) (f (2 * t + 1)))), (Value.pointer (some ⟨bn, t, none⟩)), (by simp only [fr, List.foldl_cons, List.foldl_nil, Act.put, List.setIfInBounds_toArray, List.set_cons_zero, List.set_cons_succ]), fun _ => ⟨hd 12 (by kernel_rfl), hd 21 (by kernel_rfl)⟩, o_set hO2 _ _, Lib.hid ⟨(fun h => by cases h), fun _ => by rw [← arrN_set]; exact HV0.out.set _ _⟩, f3, f8, f10, f11, f12, f16, f18, f19, f20, f21, f22, f23⟩
                case a21D =>
                  rintro L aa w hL ⟨v76, v81, v83, v84, v85, v89, v91, v92, v93, v94, v95, v96, rfl, hY, hO2, hV2, f3, f8, f10, f11, f12, f16, f18, f19, f20, f21, f22, f23⟩
                  obtain rfl := f3.out (hL 3 (by decide))
                  obtain rfl := f8.out (hL 8 (by decide))
                  obtain rfl := f10.out (hL 10 (by decide))
                  obtain rfl := f11.out (hL 11 (by decide))
                  obtain rfl := f12.out (hL 12 (by decide))
                  obtain rfl := f16.out (hL 16 (by decide))
                  obtain rfl := f18.out (hL 18 (by decide))
                  obtain rfl := f19.out (hL 19 (by decide))
                  obtain rfl := f20.out (hL 20 (by decide))
                  obtain rfl := f21.out (hL 21 (by decide))
                  obtain rfl := f22.out (hL 22 (by decide))
                  obtain rfl := f23.out (hL 23 (by decide))
                  have l24 := hL 24 (by decide)
                  simp only [fr, List.foldl_cons, List.foldl_nil, Act.put, List.setIfInBounds_toArray, List.set_cons_zero, List.set_cons_succ]
                  go_wp2
                  go_roundw
                  case rel => exact ⟨t - 1, _, by omega, by go_num, Lib.hid (hV2.out.2 l24), Lib.hid (by rw [show t - 1 + 1 = t from by omega]; exact HU.out), Lib.hid (HO.out.trans hO2)⟩
                  case measure => simp [intOf]; omega
              · obtain rfl : t = 0 := by omega
                have d2 : decide ((1 : Int) ≤ ((0 : Nat) : Int)) = false := by decide
                go_wp2
                go_ret
                have e1 : hgt cs.length = h := by rw [HL.out, HH.out]
                refine ⟨g, bc, bn, f, rfl, ⟨?_, HVY.out.only HO.out cn, ?_, ?_, gc, gn, cn, by rw [HL.out]; exact hn⟩, ?_, BY.out.trans (HO.out.below (B := X.heap.size) BY.out.size (fun k e => by omega))⟩
                · rw [e1, HS.out, HL.out]
                  exact VGY.out.only HO.out gn
                · rw [e1, HS.out]
                  exact HV.out
                · rw [e1]
                  exact HG.out
                · rintro j (rfl | rfl | rfl) <;> assumption
end Go.Proofs.Ytgelhcgaacnjcaa
