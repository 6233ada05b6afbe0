/-
  WHAT IS PROVED HERE: the walk of the law InputOwn: it returns true at every input, and leaves old memory as it was. Conditions: the arguments' lengths are a machine's, and the table of package input is laid.
-/
import Derived.Test.YtlaeambhdpagdaaDoorRowF
namespace Go.Proofs.YtlaeambhdpagdaaDoor
set_option linter.unusedVariables false
open Go.ChangeShapes Go.WideShapes Go.ChangeAt Go.RowKit

theorem own_kept {w : World} {base b : Nat} {e : TypeId} {sz n c g : Nat} {xs : List Value} (h : w.ownsRow base e sz (.slice (some ⟨g, 0, none⟩) n c) n xs) (hne : g ≠ b) (q : Nat) (u : Value) : (w.setCell ⟨b, q, none⟩ u).ownsRow base e sz (.slice (some ⟨g, 0, none⟩) n c) n xs := by
  refine ⟨h.1, ?_⟩
  rcases h.2 with h2 | ⟨g', cap, cur, h1, h2, h3, h4⟩
  · exact .inl h2
  · refine .inr ⟨g', cap, cur, h1, h2, ?_, h4⟩
    injection h1 with h1
    injection h1 with h1
    injection h1 with h1
    subst h1
    exact (Below.heap_setCell w ⟨b, q, none⟩ u g hne).trans h3
theorem own_empty (w : World) (e : TypeId) {base sz : Nat} (hb : base ≤ w.heap.size) : (w.alloc (.cells #[] e)).ownsRow base e sz (.slice (some ⟨w.heap.size, 0, none⟩) 0 0) 0 [] :=
  own_shut hb (Vr.new w e #[]) (by simp) (by simp) (Nat.le_refl _) (Nat.zero_le _) (by simp)

set_option maxRecDepth 100000 in
set_option maxHeartbeats 8000000 in
theorem own_walk (A : Option Addr) (n c : Nat) (l : List Int) (a : Int) (w : World)
    (nc : n ≤ c) (cm : c ≤ maxLen) (ln : l.length = n) (rd : Rd w w.heap.size 1 A n (l.map (Value.int .i64))) (wf : ∀ x ∈ l, (Lit.int .i64 x).wf = true) (ha : -9223372036854775808 ≤ a ∧ a ≤ 9223372036854775807) (hT : Tab w) :
    Calls Tryd.prog 9 #[.slice A n c, .int .i64 a] w fun e w' => e = .returned (.bool true) ∧ Below w.heap.size w w' := by
  have RD := Lib.hid rd
  have TT := Lib.hid hT
  have H64 := Lib.hid (fun x hx => bounds_i64 (wf x hx))
  have hn : n ≤ 9223372036854775807 := by unfold maxLen at cm; omega
  have HV := Lib.hid (insOf_val l a)
  have HLen := Lib.hid (insOf_len l a ln)
  have hm7 : min n 7 ≤ 7 := Nat.min_le_right _ _
  have HIN := Lib.hid (show insOf l a = (l.map inpOf).take 7 ++ [inpOf a] from rfl)
  clear rd wf nc cm ln hT
  go_enter Tryd.func9, Tryd.ntmps9
  go_wp2_with fail
  refine (inputs_any A n c l 7 7 _ rfl H64.out RD.out hn (by omega)).mono ?_
  rintro e w1 ⟨A1, c1, rfl, hc1, hm1, own1, hb1⟩
  have O1 := Lib.hid own1
  clear own1
  generalize min n 7 = m at *
  generalize insOf l a = I at *
  go_wp2_with fail
  refine (of_any a _ ha.1 ha.2).mono ?_
  rintro e w2 ⟨rfl, hb2⟩
  have O2 := Lib.hid (own_below O1.out hb2)
  have hB2 : Below w.heap.size w w2 := by (repeat (first | (with_reducible exact Below.refl _ _) | (with_reducible assumption) | (with_reducible refine b_drew ?_) | (with_reducible refine b_drewN ?_ _) | (with_reducible refine b_alloc ?_ _) | ((with_reducible refine b_set ?_ ?_ _); rotate_left; (focus (first | omega | (simp; done) | (simp; omega) | (simp at *; omega)))) | (with_reducible refine b_call ?_ (by with_reducible assumption))))
  have hz2 := hB2.size
  have EE := Lib.hid (fun (W : World) => own_empty W 23 (base := W.heap.size) (sz := 3) (Nat.le_refl _))
  go_wp2_with (first
    | (at_builtin; refine wpList_app _ rfl (.tmp 13) (.tmp 16) slRow rfl rfl (O2.out.alloc _) rfl (rd_lit _ _ _ rfl rfl) (by rw [← flat_one]; exact flat_cell _) (m + 1) rfl (by unfold maxLen; omega) (by omega) (by simp; omega) ?_; intro A3 c3 w3 g1 g2 g3 g4 g5; have O3 := Lib.hid (show w3.ownsRow w.heap.size 23 3 (.slice A3 (m + 1) c3) (m + 1) (flat I) from by rw [HIN.out, flat_append, flat_one]; exact g3); have hB3 := below_app (b_alloc hB2 _) (O2.out.alloc _) g4 (Nat.le_refl _) (by simp; omega); have hz3 := hB3.size; have E3 := Lib.hid (EE.out w3); have R3 := Lib.hid ((rd_own O3.out).below (b_alloc (Below.refl _ _) (.cells #[] 23)) (Nat.le_refl _)); clear g1 g2 g3 g4 g5)
    | (at_builtin; refine wpList_app _ rfl (.tmp 18) (.tmp 19) slRow rfl rfl E3.out rfl R3.out (flat_cell _) (m + 1) (by omega) (by unfold maxLen; omega) (by omega) (by simp) ?_; intro A4 c4 Z g1 g2 g3 g4 g5; have O4 := Lib.hid g3; have hB4 := below_app (b_alloc (Below.refl _ _) (.cells #[] 23)) E3.out g4 (Nat.le_refl _) (by simp); have hz4 := hB4.size; clear g1 g2 g3 g4 g5)
    | (go_at_call 25; refine (row_any A4 (m + 1) c4 I _ HV.out (by have h := rd_own O4.out; simpa using h) (by omega)).mono ?_; rintro e w5 ⟨A5, c5, rfl, hc5, hm5, own5, hb5⟩; have O5 := Lib.hid own5; clear own5))
  have hBZ : Below w.heap.size w Z := hB3.trans (hB4.mono hz3)
  have hB5 := b_call hBZ hb5
  have hCL := Lib.hid (show (I.map code).length = m + 1 from by rw [List.length_map]; exact HLen.out)
  have HP1 := Lib.hid (show parseE (I.map code) ((m + 1 : Nat) : Int) = 0 ∧ parseL (I.map code) ((m + 1 : Nat) : Int) = I from by
    have h := parse_round HV.out (by rw [HLen.out]; omega) (by rw [HLen.out]; omega)
    rw [HLen.out] at h
    exact h)
  have HB := Lib.hid (codes_bytes HV.out)
  refine (parse_any A5 (m + 1) c5 (I.map code) ((m + 1 : Nat) : Int) _ (by omega) HB.out (rd_own O5.out) (by omega) (TT.out.below hB5)).mono ?_
  intro e w6 h6
  obtain ⟨A6, c6, rfl, hc6, hm6, own6, hb6⟩ := h6.done HP1.out
  rw [HLen.out] at hc6 own6 ⊢
  have O6 := Lib.hid own6
  have O56 := Lib.hid (own_below O5.out hb6)
  have hB6 := b_call hb5 hb6
  clear own6
  obtain ⟨g5, cur5, rfl, hg5, _, _, _, _⟩ := own_open O56.out (by omega)
  obtain ⟨g6, cur6, rfl, hg6, _, _, _, _⟩ := own_open O6.out (by omega)
  have hz5 := hb5.size
  have hz6 := hb6.size
  have hgZ : Z.heap.size ≤ g6 := by omega
  have O6Z := Lib.hid (own_mono O6.out (base' := Z.heap.size) hz5)
  have RZ4 := Lib.hid (show Rd Z Z.heap.size 3 A4 (m + 1) (flat I) from by have h := rd_own O4.out; simpa using h)
  have RZ3 := Lib.hid (show Rd Z Z.heap.size 3 A3 (m + 1) (flat I) from rd_step (rd_own O3.out) hB4)
  clear O1 O2 O3 O4 O5 O6 E3 R3 EE hB2 hB3 hB4 hb1 hb2 RD H64 HIN HP1 HB hB5 hb5 hb6
  go_wp2
  have O6C := Lib.hid (show ∃ xs, w6.ownsRow Z.heap.size 5 1 (.slice (some ⟨g5, 0, none⟩) (m + 1) c5) (m + 1) xs from ⟨_, O56.out⟩)
  go_loopw [10] (fun s10 wr => ∃ i : Nat, i ≤ m + 1 ∧ s10 = .int .i64 i ∧ Hid (∃ xs, wr.ownsRow Z.heap.size 5 1 (.slice (some ⟨g5, 0, none⟩) (m + 1) c5) (m + 1) xs) ∧ Hid (∃ xs, wr.ownsRow Z.heap.size 23 3 (.slice (some ⟨g6, 0, none⟩) (m + 1) c6) (m + 1) xs) ∧ Below Z.heap.size Z wr) (fun i _ => m + 1 - (intOf i).toNat)
  case atStart => exact ⟨0, by omega, rfl, O6C, Lib.hid ⟨_, O6Z.out⟩, hB6⟩
  case round =>
    obtain ⟨Y, rfl⟩ : ∃ Y : World, Y = wr := ⟨_, rfl⟩
    obtain ⟨i, hi, rfl, HO5, HO6, hBY⟩ := hrel
    by_cases hlt : i < m + 1
    · obtain ⟨xs, hxs⟩ := HO5.out
      obtain ⟨ys, hys⟩ := HO6.out
      have HX := Lib.hid hxs
      have HY := Lib.hid hys
      have HT := Lib.hid (show Y.ownsRow Z.heap.size 23 3 (.slice (some ⟨g6, 0, none⟩) (m + 1) c6) (m + 1) ys from hys)
      obtain ⟨g, cur, e1, _, hv, _, hn1, hs1⟩ := own_open hxs (by omega)
      injection e1 with e1
      injection e1 with e1
      subst e1
      obtain ⟨g', cur', e2, _, hv', _, _, _⟩ := own_open hys (by omega)
      injection e2 with e2
      injection e2 with e2
      subst e2
      have hne : g6 ≠ g5 := by
        intro e
        subst e
        unfold Vr at hv hv'
        rw [hv] at hv'
        injection hv' with hv'
        injection hv' with _ hv'
        exact absurd hv' (by decide)
      have hf := hv.frozen i
      have hc : Y.cell? ⟨g5, i, none⟩ = some (cur[i]'(by omega)) := by rw [hv.cell, Array.getElem?_eq_getElem]
      clear hxs hys hv hv'
      go_wp2
      go_roundw
      case rel => exact ⟨i + 1, by omega, by go_num, Lib.hid ⟨_, own_set HX.out i _⟩, Lib.hid ⟨_, own_kept HT.out hne i _⟩, hBY.setCell (p := ⟨g5, i, none⟩) hg5 _⟩
      case measure => simp [intOf]; omega
    · go_wp2
      go_loopw [11] (fun s11 wr => ∃ i : Nat, i ≤ m + 1 ∧ s11 = .int .i64 i ∧ Hid (∃ xs, wr.ownsRow Z.heap.size 23 3 (.slice (some ⟨g6, 0, none⟩) (m + 1) c6) (m + 1) xs) ∧ Below Z.heap.size Z wr) (fun i _ => m + 1 - (intOf i).toNat)
      case atStart => exact ⟨0, by omega, rfl, HO6, hBY⟩
      case round =>
        obtain ⟨j, hj, rfl, HO7, hBj⟩ := hrel
        by_cases hjl : j < m + 1
        · obtain ⟨ys, hys⟩ := HO7.out
          have HY := Lib.hid hys
          obtain ⟨g', cur', e2, _, hv', _, hn2, hs2⟩ := own_open hys (by omega)
          injection e2 with e2
          injection e2 with e2
          subst e2
          have hf := hv'.frozen (j * 3)
          have hc : wr.cell? ⟨g6, j * 3, none⟩ = some (cur'[j * 3]'(by omega)) := by rw [hv'.cell, Array.getElem?_eq_getElem]
          clear hys hv'
          go_wp2
          go_roundw
          case rel => exact ⟨j + 1, by omega, by go_num, Lib.hid ⟨_, own_set HY.out (j * 3) _⟩, hBj.setCell (p := ⟨g6, j * 3, none⟩) hgZ _⟩
          case measure => simp [intOf]; omega
        · obtain ⟨X, rfl⟩ : ∃ X : World, X = wr := ⟨_, rfl⟩
          have R4 := Lib.hid (rd_step RZ4.out hBj)
          have R3 := Lib.hid (rd_step RZ3.out hBj)
          have hBX := b_call hBZ hBj
          clear hBj hBY HO5 HO6 HO7
          go_wp2_with fail
          go_region_with (first
            | (go_at_call 24; refine (equal_same A4 A3 (m + 1) _ (m + 1) _ I _ (rd_step R4.out (by (repeat (first | (with_reducible exact Below.refl _ _) | (with_reducible assumption) | (with_reducible refine b_drew ?_) | (with_reducible refine b_drewN ?_ _) | (with_reducible refine b_alloc ?_ _) | ((with_reducible refine b_set ?_ ?_ _); rotate_left; (focus (first | omega | (simp; done) | (simp; omega) | (simp at *; omega)))) | (with_reducible refine b_call ?_ (by with_reducible assumption)))))) (rd_step R3.out (by (repeat (first | (with_reducible exact Below.refl _ _) | (with_reducible assumption) | (with_reducible refine b_drew ?_) | (with_reducible refine b_drewN ?_ _) | (with_reducible refine b_alloc ?_ _) | ((with_reducible refine b_set ?_ ?_ _); rotate_left; (focus (first | omega | (simp; done) | (simp; omega) | (simp at *; omega)))) | (with_reducible refine b_call ?_ (by with_reducible assumption)))))) (by omega) (by omega)).mono ?_; rintro e w8 ⟨rfl, hb8⟩)
            | (go_at_call 25; refine (row_any A4 (m + 1) c4 I _ HV.out (rd_step R4.out (by (repeat (first | (with_reducible exact Below.refl _ _) | (with_reducible assumption) | (with_reducible refine b_drew ?_) | (with_reducible refine b_drewN ?_ _) | (with_reducible refine b_alloc ?_ _) | ((with_reducible refine b_set ?_ ?_ _); rotate_left; (focus (first | omega | (simp; done) | (simp; omega) | (simp at *; omega)))) | (with_reducible refine b_call ?_ (by with_reducible assumption)))))) (by omega)).mono ?_; rintro e w9 ⟨A9, c9, rfl, hc9, hm9, own9, hb9⟩; have hcv9 := conv_later (P := Tryd.prog) (src := 37) (dst := 9) Tryd.underlying37 Tryd.underlying5 Tryd.underlying9 c9 (rd_own own9); have hcw9 := hcv9 _ (Below.refl _ _))
            | (go_at_call 26; refine (refrow_any A3 (m + 1) c3 I _ HV.out (rd_step R3.out (by (repeat (first | (with_reducible exact Below.refl _ _) | (with_reducible assumption) | (with_reducible refine b_drew ?_) | (with_reducible refine b_drewN ?_ _) | (with_reducible refine b_alloc ?_ _) | ((with_reducible refine b_set ?_ ?_ _); rotate_left; (focus (first | omega | (simp; done) | (simp; omega) | (simp at *; omega)))) | (with_reducible refine b_call ?_ (by with_reducible assumption)))))) (by omega)).mono ?_; rintro e w10 ⟨A10, c10, rfl, hc10, hm10, own10, hb10⟩; have hcv10 := conv_later (P := Tryd.prog) (src := 37) (dst := 9) Tryd.underlying37 Tryd.underlying5 Tryd.underlying9 c10 (rd_own own10); have hcw10 := hcv10 _ (Below.refl _ _))
            | (go_at_call 15; refine (lives_any _).mono ?_; rintro e w7 ⟨rfl, hb7⟩))
          all_goals (go_wp2; go_ret; exact ⟨rfl, by (repeat (first | (with_reducible exact Below.refl _ _) | (with_reducible assumption) | (with_reducible refine b_drew ?_) | (with_reducible refine b_drewN ?_ _) | (with_reducible refine b_alloc ?_ _) | ((with_reducible refine b_set ?_ ?_ _); rotate_left; (focus (first | omega | (simp; done) | (simp; omega) | (simp at *; omega)))) | (with_reducible refine b_call ?_ (by with_reducible assumption))))⟩)
end Go.Proofs.YtlaeambhdpagdaaDoor
