/-
  WHAT IS PROVED HERE: the contract of package inputqueue's Fixed. No condition but that the queue lies in memory as stated.
-/
import Derived.Test.YtdjmaljldajpiaaIqA
namespace Go.Proofs.Ytdjmaljldajpiaa
set_option linter.unusedVariables false
open Go.ChangeShapes Go.WideShapes Go.ChangeAt Go.RowKit
open Go.Maps (Keyed)

theorem run_sliceArr {P : Program} {ty e : TypeId} {n : Nat} {i : TypeInfo} (hu : P.underlying ty = some (.array n e)) (hi : P.info? e = some i) (b o k : Nat) (hk : k ≤ n) (W : World) :
    (Instr.sliceAt ty (.pointer (some ⟨b, o, none⟩)) none (some (.int .i64 (k : Int))) none).run P W = .ok (.slice (some ⟨b, o, none⟩) k n) W := by
  have hk' : (k : Int) ≤ n := by omega
  simp [Instr.sliceAt, run_underlying hu, Instr.sureAddr, Instr.sliceBounds, run_sliceBound, hk', sizeOf, typeInfo, hi, Addr.add]
def firstI (k : Nat) (r : RowV) : List Inp := (List.range k).map r.1
def firstB (k : Nat) (r : RowV) : List Bool := (List.range k).map r.2
theorem firstI_cells {k : Nat} (hk : k ≤ 8) (r : RowV) : ∀ (j : Nat) (u : Value), (flat (firstI k r))[j]? = some u → (rowC r)[j]? = some u := by
  intro j u hj
  have hl : j < (flat (firstI k r)).length := by
    rcases Nat.lt_or_ge j (flat (firstI k r)).length with h | h
    · exact h
    · rw [List.getElem?_eq_none h] at hj; cases hj
  rw [flat_length] at hl
  have hl' : j < k * 3 := by simpa [firstI] using hl
  obtain ⟨i, q, hq, rfl⟩ : ∃ i q, q < 3 ∧ j = i * 3 + q := ⟨j / 3, j % 3, by omega, by omega⟩
  obtain ⟨g0, g1, g2⟩ := flat_get (l := firstI k r) (k := i) (by simp [firstI]; omega)
  have hr := rowC_in r (i := i) (j := q) (by omega) hq
  have he : (firstI k r)[i]'(by simp [firstI]; omega) = r.1 i := by simp [firstI]
  rw [he] at g0 g1 g2
  rw [hr]
  have hm : q = 0 ∨ q = 1 ∨ q = 2 := by omega
  rcases hm with rfl | rfl | rfl
  · rw [Nat.add_zero, g0] at hj
    exact hj
  · rw [g1] at hj
    exact hj
  · rw [g2] at hj
    exact hj
theorem firstB_cells {k : Nat} (hk : k ≤ 8) (r : RowV) : ∀ (j : Nat) (u : Value), ((firstB k r).map Value.bool)[j]? = some u → (rowC r)[24 + j]? = some u := by
  intro j u hj
  have hl : j < k := by
    rcases Nat.lt_or_ge j k with h | h
    · exact h
    · rw [List.getElem?_eq_none (by simp [firstB]; exact h)] at hj; cases hj
  rw [rowC_miss r (by omega)]
  simp [firstB, hl] at hj
  rw [hj]

/-- A fixed row comes back in new memory. -/
def RetF (w : World) (k : Nat) (r : RowV) (e : Ending) (w' : World) : Prop :=
  ∃ A c A' c', e = .returned (.tuple #[.slice A k c, .slice A' k c', .bool true]) ∧ w'.ownsRow w.heap.size 34 3 (.slice A k c) k (flat (firstI k r)) ∧ w'.ownsRow w.heap.size 4 1 (.slice A' k c') k ((firstB k r).map Value.bool) ∧ k ≤ c ∧ c ≤ maxLen ∧ k ≤ c' ∧ c' ≤ maxLen ∧ Below w.heap.size w w'
theorem slBools : SlT Try.prog 50 4 1 1 := .mk' (z := .bool false) Try.underlying50 (by kernel_rfl) rfl (by omega)
theorem infoRow : (Try.prog.info? 75).map (·.size) = some 32 := by kernel_rfl

theorem fixed_no (p b : Nat) (g : Option Nat) (k wt nm : Nat) (pd : Nat → Nat → Option Inp) (rows : List RowV) (t : Int) (w : World) (h : Iqu w p b g k wt nm pd rows) (ht : t < 0 ∨ (rows.length : Int) ≤ t) :
    Calls Try.prog 21 #[.pointer (some ⟨p, 0, none⟩), .int .i64 t] w fun e w' => e = .returned (.tuple #[.slice none 0 0, .slice none 0 0, .bool false]) ∧ w = w' := by
  obtain ⟨A, c, h0, h1, h2, h3, h4, h5, _⟩ := h.cells
  by_cases hc : t < 0
  · go_enter Try.func21, Try.ntmps21
    go_wp2
    go_ret3
    exact ⟨rfl, rfl⟩
  · have hd : decide (t < 0) = false := by simpa using hc
    have hd2 : decide ((rows.length : Int) ≤ t) = true := by simp; omega
    clear ht hc
    go_enter Try.func21, Try.ntmps21
    go_wp2
    go_ret3
    exact ⟨rfl, rfl⟩

set_option maxHeartbeats 1000000 in
theorem fixed_yes (p b : Nat) (g : Option Nat) (k wt nm : Nat) (pd : Nat → Nat → Option Inp) (rows : List RowV) (t : Nat) (w : World) (h : Iqu w p b g k wt nm pd rows) (hk : k ≤ 8) (ht : t < rows.length) (hr : rows.length ≤ 100000) :
    Calls Try.prog 21 #[.pointer (some ⟨p, 0, none⟩), .int .i64 (t : Int)] w (RetF w k rows[t]) := by
  obtain ⟨A, c, h0, h1, h2, h3, h4, h5, hown⟩ := h.cells
  have hpl := h.lt p (.inl rfl)
  obtain ⟨b1, cur, rfl, _, hV, htk, hn, hs⟩ := own_open hown (by omega)
  have HR := Lib.hid (show w.rangeAt b1 (t * 32) (rowC rows[t]) from by
    intro j v hj
    have hjl : j < 32 := by
      rcases Nat.lt_or_ge j 32 with h | h
      · exact h
      · rw [List.getElem?_eq_none (by rw [rowC_len]; exact h)] at hj; cases hj
    have h1 := block_get rowC 32 rowC_len rows ht hjl
    rw [hj, ← htk, List.getElem?_take] at h1
    split at h1
    · rw [hV.cell]
      simpa using h1
    · cases h1)
  obtain ⟨r, hrr⟩ : ∃ r, rows[t] = r := ⟨_, rfl⟩
  rw [hrr] at HR ⊢
  clear hown hV htk hrr h
  have htl : (t : Int) < (rows.length : Int) := by omega
  generalize rows.length = n at *
  obtain ⟨ii, hii⟩ : ∃ i, Try.prog.info? 34 = some i := Option.isSome_iff_exists.1 (by kernel_rfl)
  obtain ⟨ib, hib⟩ : ∃ i, Try.prog.info? 4 = some i := Option.isSome_iff_exists.1 (by kernel_rfl)
  have hs1 := fun W => run_sliceArr Try.underlying72 hii w.heap.size 0 k hk W
  have hs2 := fun W => run_sliceArr Try.underlying73 hib w.heap.size 24 k hk W
  clear hii hib
  have VR := Lib.hid (Vr.new w 75 (rowC r).toArray)
  have RI := Lib.hid (show Rd (w.alloc (.cells (rowC r).toArray 75)) (w.alloc (.cells (rowC r).toArray 75)).heap.size 3 (some ⟨w.heap.size, 0, none⟩) k (flat (firstI k r)) from
    ⟨by rw [flat_length]; simp [firstI], fun _ => ⟨w.heap.size, 0, rfl, by simp, fun j u hu => by rw [VR.out.cell, Nat.zero_add]; simpa using firstI_cells hk r j u hu⟩⟩)
  have RB := Lib.hid (show Rd (w.alloc (.cells (rowC r).toArray 75)) (w.alloc (.cells (rowC r).toArray 75)).heap.size 1 (some ⟨w.heap.size, 24, none⟩) k ((firstB k r).map Value.bool) from
    ⟨by simp [firstB], fun _ => ⟨w.heap.size, 24, rfl, by simp, fun j u hu => by rw [VR.out.cell]; simpa using firstB_cells hk r j u hu⟩⟩)
  have hb0 : Below w.heap.size w (w.alloc (.cells (rowC r).toArray 75)) := b_alloc (Below.refl _ _) _
  go_enter Try.func21, Try.ntmps21
  go_wp2_with (first
    | (refine wpList_load_mid rfl 75 (.tmp 24) rfl b1 (t * 32) rfl (rowC r) _ HR.out Try.underlying75 rfl (by rw [rowC_len]; exact infoRow) ?_)
    | (refine wpList_store_new rfl 75 (.tmp 7) (.tmp 25) rfl _ (rowC r).toArray rfl rfl (by rw [List.size_toArray, rowC_len]; exact infoRow) (by simp [rowC_len]) (all_oneCell_toArray (rowC_cell r)) ?_)
    | (at_builtin; refine wpList_app _ rfl (.tmp 26) (.tmp 32) slRow rfl rfl (own_nil _ w.heap.size _ _) rfl RI.out (flat_cell _) k (Nat.zero_add _) (by unfold maxLen; omega) (by omega) hb0.size ?_; intro A2 c2 w2 g1 g2 g3 g4 g5; have O2 := Lib.hid g3; have hb2 := below_app hb0 (own_nil _ w.heap.size 34 3) g4 (Nat.le_refl _) hb0.size; have hc2 := g1; have hm2 := g2; have hzz := hb2.size; have RB2 := Lib.hid (RB.out.keep (fun j hj => g4.block j hj (by intro e; cases e))); have hz2 := g4.size; have hcw := fun j (hj : j < w.heap.size) o => World.cell?_of_block (w := w) (w' := w2) (a := ⟨j, o, none⟩) (hb2.block j hj); clear g1 g2 g3 g4 g5)
    | (at_builtin; refine wpList_app _ rfl (.tmp 34) (.tmp 40) slBools rfl rfl (own_nil _ w.heap.size _ _) rfl RB2.out (by intro u hu; obtain ⟨x, _, rfl⟩ := List.mem_map.1 hu; rfl) k (Nat.zero_add _) (by unfold maxLen; omega) (by omega) (by omega) ?_; intro A3 c3 w3 g1 g2 g3 g4 g5))
  go_ret3
  exact ⟨A2, c2, A3, c3, rfl, O2.out.kept g4 (by rcases (Value.slice A2 k c2).ownBlock with _ | j; exact .inl rfl; exact .inr (by intro e; cases e)), g3, hc2, hm2, g1, g2, below_app hb2 (own_nil _ w.heap.size 4 1) g4 (Nat.le_refl _) hzz⟩
end Go.Proofs.Ytdjmaljldajpiaa
