/-
  WHAT IS PROVED HERE: contracts of package merkle's has, node and Root of a tree. No condition but that the tree lies in memory.
-/
import Derived.Test.YtgelhcgaacnjcaaMkD
import Derived.Deep.Cut
import Derived.Deep.CutRange
import Derived.IntWalk
namespace Go.Proofs.Ytgelhcgaacnjcaa
set_option linter.unusedVariables false
open Go.ChangeShapes Go.WideShapes Go.ChangeAt Go.RowKit

section
variable {g bc bn : Nat} {cs : List Int} {f : Nat → Int} {w : World}
set_option maxHeartbeats 1000000 in
theorem thas_any (i : Int) (H : Tr w g bc bn cs f) : Calls Try.prog 43 #[.pointer (some ⟨g, 0, none⟩), .int .i64 i] w fun e w' => e = .returned (.bool (decide (0 ≤ i ∧ i < (cs.length : Int)))) ∧ w = w' := by
  obtain ⟨v1, v2, v3⟩ := H.V.facts
  have HH := Lib.hid H
  clear H
  by_cases c1 : 0 ≤ i
  · by_cases c2 : i < (cs.length : Int)
    · go_enter Try.func43, Try.ntmps43
      go_wp2
      go_ret
      exact ⟨ret_bool (by simp [c1, c2]), rfl⟩
    · have d2 : decide (i < (cs.length : Int)) = false := by simpa using c2
      go_enter Try.func43, Try.ntmps43
      go_wp2
      go_ret
      exact ⟨ret_bool (by simp), rfl⟩
  · have d2 : decide (0 ≤ i) = false := by simpa using c1
    go_enter Try.func43, Try.ntmps43
    go_wp2
    go_ret
    exact ⟨ret_bool (by simp), rfl⟩
set_option maxHeartbeats 1000000 in
theorem troot_any (H : Tr w g bc bn cs f) : Calls Try.prog 21 #[.pointer (some ⟨g, 0, none⟩)] w fun e w' => e = .returned (.int .u64 (nV cs (hgt cs.length) 0)) ∧ w = w' := by
  obtain ⟨h, hh⟩ : ∃ h, hgt cs.length = h := ⟨_, rfl⟩
  have hp := pow10 H.h10
  have HR := Lib.hid H.root
  have V := H.V
  have N := H.N
  rw [hh] at V N hp HR ⊢
  obtain ⟨S, hS⟩ : ∃ S, 2 ^ h = S := ⟨_, rfl⟩
  rw [hS] at V N hp
  have y0 : w.cell? ⟨bn, 1, none⟩ = some (.int .u64 (f 1)) := by rw [N.cell]; exact arrN_get f (by omega)
  have z2 : w.cell? ⟨g, 2, none⟩ = some (.slice (some ⟨bn, 0, none⟩) (2 * S) (2 * S)) := V.cell 2
  have b1 : (1 : Int) < ((2 * S : Nat) : Int) := by omega
  clear hh hS V N H
  go_enter Try.func21, Try.ntmps21
  go_wp2
  go_ret
  exact ⟨ret_int HR.out, rfl⟩
set_option maxHeartbeats 1000000 in
theorem node_v (l k h n : Nat) (V : Vr w g 69 #[.int .i64 (h : Nat), .slice (some ⟨bc, 0, none⟩) n n, .slice (some ⟨bn, 0, none⟩) (2 * 2 ^ h) (2 * 2 ^ h)]) (h10 : h ≤ 10) (hl : l ≤ h) (hk : k < 2 ^ (h - l)) : Calls Try.prog 44 #[.pointer (some ⟨g, 0, none⟩), .agg #[.int .i64 l, .int .i64 k]] w fun e w' => e = .returned (.pointer (some ⟨bn, 2 ^ (h - l) + k, none⟩)) ∧ Below w.heap.size w w' := by
  have hp := pow10 h10
  have hle : 2 ^ (h - l) ≤ 2 ^ h := Nat.pow_le_pow_right (by omega) (by omega)
  obtain ⟨S, hS⟩ : ∃ S, 2 ^ h = S := ⟨_, rfl⟩
  rw [hS] at V hp hle
  have z0 : w.cell? ⟨g, 0, none⟩ = some (.int .i64 (h : Nat)) := V.cell 0
  have z2 : w.cell? ⟨g, 2, none⟩ = some (.slice (some ⟨bn, 0, none⟩) (2 * S) (2 * S)) := V.cell 2
  obtain ⟨T, hT⟩ : ∃ T, 2 ^ (h - l) = T := ⟨_, rfl⟩
  have E1 : (2 : Int) ^ (h - l) = ((T : Nat) : Int) := by rw [← hT, Int.natCast_pow]; rfl
  have E16 := Lib.hid (show IntKind.i64.wrap ((2 : Int) ^ (h - l)) = (T : Int) from by rw [E1]; exact IntWalk.i64_in _ (by omega))
  have E15 := Lib.hid (show IntKind.i64.wrap ((h : Int) - l) = (h : Int) - l from IntWalk.i64_in _ (by omega))
  rw [hT] at hk hle
  have E19 := Lib.hid (show IntKind.i64.wrap ((T : Int) + k) = (T : Int) + k from IntWalk.i64_in _ (by omega))
  have E20 := Lib.hid (show (0 : Int) ≤ (T : Int) + k ∧ (T : Int) + k < 2 * (S : Int) ∧ ((T : Int) + k).toNat = T + k from by omega)
  rw [hT]
  clear hS V hT E1
  go_enter Try.func44, Try.ntmps44
  go_wp2
  refine name_world ?_
  intro X hX
  have hB : Below w.heap.size w X := by rw [hX]; (repeat (first | (with_reducible exact Below.refl _ _) | (with_reducible assumption) | (with_reducible refine b_drew ?_) | (with_reducible refine b_drewN ?_ _) | (with_reducible refine b_alloc ?_ _) | ((with_reducible refine b_set ?_ ?_ _); rotate_left; (focus (first | omega | (simp; done) | (simp; omega) | (simp at *; omega)))) | (with_reducible refine b_call ?_ (by with_reducible assumption))))
  have VP : Vr X w.heap.size 64 #[.int .i64 l, .int .i64 k] := by rw [hX]; exact Vr.new w _ _
  obtain ⟨b, hb⟩ : ∃ b, w.heap.size = b := ⟨_, rfl⟩
  rw [hb] at VP ⊢
  have p0 : X.cell? ⟨b, 0, none⟩ = some (.int .i64 l) := VP.cell 0
  have p1 : X.cell? ⟨b, 1, none⟩ = some (.int .i64 k) := VP.cell 1
  have y0 := cell_keep hB z0
  have y2 := cell_keep hB z2
  have HB := Lib.hid hB
  clear hX hb VP z0 z2 hB
  refine wp_region_any (by kernel_rfl) ?_
  change wpAny _ _ _ _ _ _ _ (World.drew _)
  refine take_at (i := 0) (some 5) (v := ?vg5) rfl rfl (by kernel_rfl) (by kernel_rfl) (by kernel_rfl) (fun _ _ _ h => h) (Or.inl ⟨by rfl, ?hg5⟩) ?rg5
  case hg5 => (intro w0; go_simp; try with_reducible rfl)
  simp only [Act.put, List.setIfInBounds_toArray, List.set_cons_zero, List.set_cons_succ]
  refine take_at (i := 1) (some 6) (v := ?vg6) rfl rfl (by kernel_rfl) (by kernel_rfl) (by kernel_rfl) (fun _ _ _ h => h) (Or.inl ⟨by rfl, ?hg6⟩) ?rg6
  case hg6 => (intro w0; go_simp; try with_reducible rfl)
  simp only [Act.put, List.setIfInBounds_toArray, List.set_cons_zero, List.set_cons_succ]
  refine take_at (i := 2) (some 7) (v := ?vg7) rfl rfl (by kernel_rfl) (by kernel_rfl) (by kernel_rfl) (fun _ _ _ h => h) (Or.inl ⟨by rfl, ?hg7⟩) ?rg7
  case hg7 => (intro w0; go_simp; try with_reducible rfl)
  simp only [Act.put, List.setIfInBounds_toArray, List.set_cons_zero, List.set_cons_succ]
  refine take_at (i := 4) (some 9) (v := ?vg8) rfl rfl (by kernel_rfl) (by kernel_rfl) (by kernel_rfl) (fun _ _ _ h => h) (Or.inl ⟨by rfl, ?hg8⟩) ?rg8
  case hg8 => (intro w0; go_simp; try with_reducible rfl)
  simp only [Act.put, List.setIfInBounds_toArray, List.set_cons_zero, List.set_cons_succ]
  refine take_at (i := 5) (some 10) (v := ?vg9) rfl rfl (by kernel_rfl) (by kernel_rfl) (by kernel_rfl) (fun _ _ _ h => h) (Or.inl ⟨by rfl, ?hg9⟩) ?rg9
  case hg9 => (intro w0; go_simp; try with_reducible rfl)
  simp only [Act.put, List.setIfInBounds_toArray, List.set_cons_zero, List.set_cons_succ]
  refine take_at (i := 6) (some 11) (v := ?vg10) rfl rfl (by kernel_rfl) (by kernel_rfl) (by kernel_rfl) (fun _ _ _ h => h) (Or.inl ⟨by rfl, ?hg10⟩) ?rg10
  case hg10 => (intro w0; go_simp; try with_reducible rfl)
  simp only [Act.put, List.setIfInBounds_toArray, List.set_cons_zero, List.set_cons_succ]
  refine take_at (i := 8) (some 13) (v := ?vg11) rfl rfl (by kernel_rfl) (by kernel_rfl) (by kernel_rfl) (fun _ _ _ h => h) (Or.inl ⟨by rfl, ?hg11⟩) ?rg11
  case hg11 => (intro w0; go_simp; try with_reducible rfl)
  simp only [Act.put, List.setIfInBounds_toArray, List.set_cons_zero, List.set_cons_succ]
  refine take_at (i := 12) (some 17) (v := ?vg12) rfl rfl (by kernel_rfl) (by kernel_rfl) (by kernel_rfl) (fun _ _ _ h => h) (Or.inl ⟨by rfl, ?hg12⟩) ?rg12
  case hg12 => (intro w0; go_simp; try with_reducible rfl)
  simp only [Act.put, List.setIfInBounds_toArray, List.set_cons_zero, List.set_cons_succ]
  refine wpAny_go (fun A0 L aa w => ∃ (v8 v12 v14 v15 v16 v18 v19 v20 v4 : Value), aa = fr A0 [(8, v8), (12, v12), (14, v14), (15, v15), (16, v16), (18, v18), (19, v19), (20, v20), (4, v4)] ∧ (Below X.heap.size X w) ∧ Hid (L 3 = true → v8 = Value.slice (some ⟨bn, 0, none⟩) (2 * S) (2 * S)) ∧ Hid (L 7 = true → v12 = Value.int .i64 h) ∧ Hid (L 9 = true → v14 = Value.int .i64 l) ∧ Hid (L 10 = true → v15 = Value.int .i64 ((h : Int) - l)) ∧ Hid (L 11 = true → v16 = Value.int .i64 (T : Nat)) ∧ Hid (L 13 = true → v18 = Value.int .i64 k) ∧ Hid (L 14 = true → v19 = Value.int .i64 ((T : Int) + k)) ∧ Hid (L 15 = true → v20 = Value.pointer (some ⟨bn, T + k, none⟩)) ∧ Hid (L 16 = true → v4 = Value.pointer (some ⟨bn, T + k, none⟩))) [3, 7, 9, 10, 11, 13, 14, 15, 16] (by kernel_rfl) (by kernel_rfl) ?a4I ?a4S ?a4D
  case a4I =>
    refine ⟨?a4v8, ?a4v12, ?a4v14, ?a4v15, ?a4v16, ?a4v18, ?a4v19, ?a4v20, ?a4v4, ?a4fr, b_drew (Below.refl _ _), Lib.hid (no_yet (by kernel_rfl)), Lib.hid (no_yet (by kernel_rfl)), Lib.hid (no_yet (by kernel_rfl)), Lib.hid (no_yet (by kernel_rfl)), Lib.hid (no_yet (by kernel_rfl)), Lib.hid (no_yet (by kernel_rfl)), Lib.hid (no_yet (by kernel_rfl)), Lib.hid (no_yet (by kernel_rfl)), Lib.hid (no_yet (by kernel_rfl))⟩
    case a4fr => (simp only [fr, List.foldl_cons, List.foldl_nil, Act.put, List.setIfInBounds_toArray, List.set_cons_zero, List.set_cons_succ]; rfl)
  case a4S =>
    refine Steps.go (i := 3) (o := _) rfl ?a4s3 (Steps.go (i := 7) (o := _) rfl ?a4s7 (Steps.go (i := 9) (o := _) rfl ?a4s9 (Steps.go (i := 10) (o := _) rfl ?a4s10 (Steps.go (i := 11) (o := _) rfl ?a4s11 (Steps.go (i := 13) (o := _) rfl ?a4s13 (Steps.go (i := 14) (o := _) rfl ?a4s14 (Steps.go (i := 15) (o := _) rfl ?a4s15 (Steps.go (i := 16) (o := _) rfl ?a4s16 Steps.nil))))))))
    · rintro L aa w h0 hd ⟨v8, v12, v14, v15, v16, v18, v19, v20, v4, rfl, hW, f3, f7, f9, f10, f11, f13, f14, f15, f16⟩ K hK
      simp only [fr, List.foldl_cons, List.foldl_nil, Act.put, List.setIfInBounds_toArray, List.set_cons_zero, List.set_cons_succ]
      have x := cell_keep hW y2
      go_simp
      exact hK _ _ ⟨(Value.slice (some ⟨bn, 0, none⟩) (2 * S) (2 * S)), v12, v14, v15, v16, v18, v19, v20, v4, (by simp only [fr, List.foldl_cons, List.foldl_nil, Act.put, List.setIfInBounds_toArray, List.set_cons_zero, List.set_cons_succ]), hW, Lib.hid (fun _ => rfl), f7, f9, f10, f11, f13, f14, f15, f16⟩
    · rintro L aa w h0 hd ⟨v8, v12, v14, v15, v16, v18, v19, v20, v4, rfl, hW, f3, f7, f9, f10, f11, f13, f14, f15, f16⟩ K hK
      simp only [fr, List.foldl_cons, List.foldl_nil, Act.put, List.setIfInBounds_toArray, List.set_cons_zero, List.set_cons_succ]
      have x := cell_keep hW y0
      go_simp
      exact hK _ _ ⟨v8, (Value.int .i64 h), v14, v15, v16, v18, v19, v20, v4, (by simp only [fr, List.foldl_cons, List.foldl_nil, Act.put, List.setIfInBounds_toArray, List.set_cons_zero, List.set_cons_succ]), hW, f3, Lib.hid (fun _ => rfl), f9, f10, f11, f13, f14, f15, f16⟩
    · rintro L aa w h0 hd ⟨v8, v12, v14, v15, v16, v18, v19, v20, v4, rfl, hW, f3, f7, f9, f10, f11, f13, f14, f15, f16⟩ K hK
      simp only [fr, List.foldl_cons, List.foldl_nil, Act.put, List.setIfInBounds_toArray, List.set_cons_zero, List.set_cons_succ]
      have x := cell_keep hW p0
      go_simp
      exact hK _ _ ⟨v8, v12, (Value.int .i64 l), v15, v16, v18, v19, v20, v4, (by simp only [fr, List.foldl_cons, List.foldl_nil, Act.put, List.setIfInBounds_toArray, List.set_cons_zero, List.set_cons_succ]), hW, f3, f7, Lib.hid (fun _ => rfl), f10, f11, f13, f14, f15, f16⟩
    · rintro L aa w h0 hd ⟨v8, v12, v14, v15, v16, v18, v19, v20, v4, rfl, hW, f3, f7, f9, f10, f11, f13, f14, f15, f16⟩ K hK
      obtain rfl := f7.out (hd 7 (by kernel_rfl))
      obtain rfl := f9.out (hd 9 (by kernel_rfl))
      simp only [fr, List.foldl_cons, List.foldl_nil, Act.put, List.setIfInBounds_toArray, List.set_cons_zero, List.set_cons_succ]
      have x := E15.out
      go_simp
      exact hK _ _ ⟨v8, (Value.int .i64 h), (Value.int .i64 l), (Value.int .i64 ((h : Int) - l)), v16, v18, v19, v20, v4, (by simp only [fr, List.foldl_cons, List.foldl_nil, Act.put, List.setIfInBounds_toArray, List.set_cons_zero, List.set_cons_succ]), hW, f3, f7, f9, Lib.hid (fun _ => rfl), f11, f13, f14, f15, f16⟩
    · rintro L aa w h0 hd ⟨v8, v12, v14, v15, v16, v18, v19, v20, v4, rfl, hW, f3, f7, f9, f10, f11, f13, f14, f15, f16⟩ K hK
      obtain rfl := f10.out (hd 10 (by kernel_rfl))
      simp only [fr, List.foldl_cons, List.foldl_nil, Act.put, List.setIfInBounds_toArray, List.set_cons_zero, List.set_cons_succ]
      have x := E16.out
      go_simp
      exact hK _ _ ⟨v8, v12, v14, (Value.int .i64 ((h : Int) - l)), (Value.int .i64 (T : Nat)), v18, v19, v20, v4, (by simp only [fr, List.foldl_cons, List.foldl_nil, Act.put, List.setIfInBounds_toArray, List.set_cons_zero, List.set_cons_succ]), hW, f3, f7, f9, f10, Lib.hid (fun _ => rfl), f13, f14, f15, f16⟩
    · rintro L aa w h0 hd ⟨v8, v12, v14, v15, v16, v18, v19, v20, v4, rfl, hW, f3, f7, f9, f10, f11, f13, f14, f15, f16⟩ K hK
      simp only [fr, List.foldl_cons, List.foldl_nil, Act.put, List.setIfInBounds_toArray, List.set_cons_zero, List.set_cons_succ]
      have x := cell_keep hW p1
      go_simp
      exact hK _ _ ⟨v8, v12, v14, v15, v16, (Value.int .i64 k), v19, v20, v4, (by simp only [fr, List.foldl_cons, List.foldl_nil, Act.put, List.setIfInBounds_toArray, List.set_cons_zero, List.set_cons_succ]), hW, f3, f7, f9, f10, f11, Lib.hid (fun _ => rfl), f14, f15, f16⟩
    · rintro L aa w h0 hd ⟨v8, v12, v14, v15, v16, v18, v19, v20, v4, rfl, hW, f3, f7, f9, f10, f11, f13, f14, f15, f16⟩ K hK
      obtain rfl := f11.out (hd 11 (by kernel_rfl))
      obtain rfl := f13.out (hd 13 (by kernel_rfl))
      simp only [fr, List.foldl_cons, List.foldl_nil, Act.put, List.setIfInBounds_toArray, List.set_cons_zero, List.set_cons_succ]
      have x := E19.out
      go_simp
      exact hK _ _ ⟨v8, v12, v14, v15, (Value.int .i64 (T : Nat)), (Value.int .i64 k), (Value.int .i64 ((T : Int) + k)), v20, v4, (by simp only [fr, List.foldl_cons, List.foldl_nil, Act.put, List.setIfInBounds_toArray, List.set_cons_zero, List.set_cons_succ]), hW, f3, f7, f9, f10, f11, f13, Lib.hid (fun _ => rfl), f15, f16⟩
    · rintro L aa w h0 hd ⟨v8, v12, v14, v15, v16, v18, v19, v20, v4, rfl, hW, f3, f7, f9, f10, f11, f13, f14, f15, f16⟩ K hK
      obtain rfl := f3.out (hd 3 (by kernel_rfl))
      obtain rfl := f14.out (hd 14 (by kernel_rfl))
      simp only [fr, List.foldl_cons, List.foldl_nil, Act.put, List.setIfInBounds_toArray, List.set_cons_zero, List.set_cons_succ]
      obtain ⟨x1, x2, x3⟩ := E20.out
      go_simp
      exact hK _ _ ⟨(Value.slice (some ⟨bn, 0, none⟩) (2 * S) (2 * S)), v12, v14, v15, v16, v18, (Value.int .i64 ((T : Int) + k)), (Value.pointer (some ⟨bn, T + k, none⟩)), v4, (by simp only [fr, List.foldl_cons, List.foldl_nil, Act.put, List.setIfInBounds_toArray, List.set_cons_zero, List.set_cons_succ]), hW, f3, f7, f9, f10, f11, f13, f14, Lib.hid (fun _ => rfl), f16⟩
    · rintro L aa w h0 hd ⟨v8, v12, v14, v15, v16, v18, v19, v20, v4, rfl, hW, f3, f7, f9, f10, f11, f13, f14, f15, f16⟩ K hK
      obtain rfl := f15.out (hd 15 (by kernel_rfl))
      simp only [fr, List.foldl_cons, List.foldl_nil, Act.put, List.setIfInBounds_toArray, List.set_cons_zero, List.set_cons_succ]
      go_simp
      exact hK _ _ ⟨v8, v12, v14, v15, v16, v18, v19, (Value.pointer (some ⟨bn, T + k, none⟩)), (Value.pointer (some ⟨bn, T + k, none⟩)), (by simp only [fr, List.foldl_cons, List.foldl_nil, Act.put, List.setIfInBounds_toArray, List.set_cons_zero, List.set_cons_succ]), hW, f3, f7, f9, f10, f11, f13, f14, f15, Lib.hid (fun _ => rfl)⟩
  case a4D =>
    rintro L aa w hL ⟨v8, v12, v14, v15, v16, v18, v19, v20, v4, rfl, hW, f3, f7, f9, f10, f11, f13, f14, f15, f16⟩
    obtain rfl := f3.out (hL 3 (by decide))
    obtain rfl := f7.out (hL 7 (by decide))
    obtain rfl := f9.out (hL 9 (by decide))
    obtain rfl := f10.out (hL 10 (by decide))
    obtain rfl := f11.out (hL 11 (by decide))
    obtain rfl := f13.out (hL 13 (by decide))
    obtain rfl := f14.out (hL 14 (by decide))
    obtain rfl := f15.out (hL 15 (by decide))
    obtain rfl := f16.out (hL 16 (by decide))
    simp only [fr, List.foldl_cons, List.foldl_nil, Act.put, List.setIfInBounds_toArray, List.set_cons_zero, List.set_cons_succ]
    go_wp2
    go_ret
    exact ⟨rfl, b_call HB.out hW⟩
theorem node_any (l k : Nat) (H : Tr w g bc bn cs f) (hl : l ≤ hgt cs.length) (hk : k < 2 ^ (hgt cs.length - l)) : Calls Try.prog 44 #[.pointer (some ⟨g, 0, none⟩), .agg #[.int .i64 l, .int .i64 k]] w fun e w' => e = .returned (.pointer (some ⟨bn, 2 ^ (hgt cs.length - l) + k, none⟩)) ∧ Below w.heap.size w w' :=
  node_v l k (hgt cs.length) cs.length H.V H.h10 hl hk
end
end Go.Proofs.Ytgelhcgaacnjcaa
