/-
  WHAT IS PROVED HERE: the contract of package inputqueue's complete. No condition but that the queue lies in memory as stated.
-/
import Derived.Test.YtdjmaljldajpiaaIqD
namespace Go.Proofs.Ytdjmaljldajpiaa
set_option linter.unusedVariables false
open Go.ChangeShapes Go.WideShapes Go.ChangeAt Go.RowKit
open Go.Maps (Keyed)

/-- All players have offered for tick t. -/
def compB (k : Nat) (pd : Nat → Nat → Option Inp) (t : Nat) : Bool := (List.range k).all fun i => (pd t i).isSome
theorem compB_no {k t i : Nat} {pd : Nat → Nat → Option Inp} (hi : i < k) (h : pd t i = none) : compB k pd t = false := by
  unfold compB
  rw [List.all_eq_false]
  exact ⟨i, by simpa using hi, by rw [h]; simp⟩
theorem compB_yes {k t : Nat} {pd : Nat → Nat → Option Inp} (h : ∀ i, i < k → (pd t i).isSome = true) : compB k pd t = true := by
  unfold compB
  rw [List.all_eq_true]
  intro i hi
  exact h i (by simpa using hi)
theorem slot_at (f : Nat → Option Inp) {i : Nat} (hi : i < 8) : (slotsC f)[i * 4 + 3]? = some (.bool (f i).isSome) := by
  rw [slotsC_get f hi (by omega)]
  cases f i <;> rfl

/-- The variable of slots, as it is made. -/
def zero32 : Array Value := #[.int .i64 0, .int .i64 0, .int .i64 0, .bool false, .int .i64 0, .int .i64 0, .int .i64 0, .bool false, .int .i64 0, .int .i64 0, .int .i64 0, .bool false, .int .i64 0, .int .i64 0, .int .i64 0, .bool false, .int .i64 0, .int .i64 0, .int .i64 0, .bool false, .int .i64 0, .int .i64 0, .int .i64 0, .bool false, .int .i64 0, .int .i64 0, .int .i64 0, .bool false, .int .i64 0, .int .i64 0, .int .i64 0, .bool false]
theorem zero32_eq : (slotsC fun _ => none).toArray = zero32 := rfl
theorem store32 (f : Nat → Option Inp) (W : World) : (storeCells ⟨W.heap.size, 0, none⟩ (slotsC f) 0).run Try.prog (W.alloc (.cells #[.int .i64 0, .int .i64 0, .int .i64 0, .bool false, .int .i64 0, .int .i64 0, .int .i64 0, .bool false, .int .i64 0, .int .i64 0, .int .i64 0, .bool false, .int .i64 0, .int .i64 0, .int .i64 0, .bool false, .int .i64 0, .int .i64 0, .int .i64 0, .bool false, .int .i64 0, .int .i64 0, .int .i64 0, .bool false, .int .i64 0, .int .i64 0, .int .i64 0, .bool false, .int .i64 0, .int .i64 0, .int .i64 0, .bool false] 69)) = .ok () (W.alloc (.cells (slotsC f).toArray 69)) := by
  have h := run_storeCells_new (P := Try.prog) W 69 zero32 (slotsC f).toArray (by rw [List.size_toArray, slotsC_len]; exact infoSlots) (by simp [slotsC_len, zero32]) (all_oneCell_toArray (slotsC_cell _))
  simpa [zero32] using h
theorem store32D (f : Nat → Option Inp) (W : World) : (storeCells ⟨W.heap.size, 0, none⟩ (slotsC f) 0).run Try.prog (W.alloc (.cells #[.int .i64 0, .int .i64 0, .int .i64 0, .bool false, .int .i64 0, .int .i64 0, .int .i64 0, .bool false, .int .i64 0, .int .i64 0, .int .i64 0, .bool false, .int .i64 0, .int .i64 0, .int .i64 0, .bool false, .int .i64 0, .int .i64 0, .int .i64 0, .bool false, .int .i64 0, .int .i64 0, .int .i64 0, .bool false, .int .i64 0, .int .i64 0, .int .i64 0, .bool false, .int .i64 0, .int .i64 0, .int .i64 0, .bool false] 69)).drew = .ok () (W.alloc (.cells (slotsC f).toArray 69)).drew := store32 f W.drew
set_option maxRecDepth 100000 in
set_option maxHeartbeats 2000000 in
theorem complete_any (p b : Nat) (g : Option Nat) (k wt nm : Nat) (pd : Nat → Nat → Option Inp) (rows : List RowV) (w : World) (h : Iqu w p b g k wt nm pd rows) (hk : k ≤ 8) (hr : rows.length ≤ 6000) :
    Calls Try.prog 29 #[.pointer (some ⟨p, 0, none⟩)] w fun e w' => e = .returned (.bool (compB k pd rows.length)) ∧ Below w.heap.size w w' := by
  obtain ⟨A, c, h0, h1, h2, h3, h4, h5, _⟩ := h.cells
  have hpl := h.lt p (.inl rfl)
  obtain ⟨_, _, F, _, _, _, _, hM, hF, _⟩ := h
  have HM := Lib.hid hM
  have HF := Lib.hid (hF rows.length (by omega))
  generalize rows.length = n at *
  obtain ⟨f, hf⟩ : ∃ f, pd n = f := ⟨_, rfl⟩
  rw [hf] at HF
  have HFF := Lib.hid hf
  have hlk : ∀ W, Below w.heap.size w W → (Instr.lookup 59 (.map (some b)) (.int .i64 (n : Int)) false).run Try.prog W = .ok (.agg (slotsC f).toArray) W := fun W hb => by
    have h := (HM.out.call hb).look keyInt Try.underlying59 (zeroSlots W) (keyN (k := n) (by omega))
    rw [HF.out] at h
    exact h
  have hst := store32 f
  have hsd := store32D f
  have hf32 := slotsC_len f
  clear hM hF hf
  go_enter Try.func29, Try.ntmps29
  go_wp2
  go_region_held3 (fun w' => w'.cell? ⟨p, 2, none⟩ = some (.map (some b)) ∧ w'.cell? ⟨p, 3, none⟩ = some (.slice A n c) ∧ Below w.heap.size w w') (exact ⟨cell_keep (by (repeat (first | (with_reducible exact Below.refl _ _) | (with_reducible assumption) | (with_reducible refine b_drew ?_) | (with_reducible refine b_drewN ?_ _) | (with_reducible refine b_alloc ?_ _) | ((with_reducible refine b_set ?_ ?_ _); rotate_left; (focus (first | omega | (simp; done) | (simp; omega) | (simp at *; omega)))) | (with_reducible refine b_call ?_ (by with_reducible assumption))))) h2, cell_keep (by (repeat (first | (with_reducible exact Below.refl _ _) | (with_reducible assumption) | (with_reducible refine b_drew ?_) | (with_reducible refine b_drewN ?_ _) | (with_reducible refine b_alloc ?_ _) | ((with_reducible refine b_set ?_ ?_ _); rotate_left; (focus (first | omega | (simp; done) | (simp; omega) | (simp at *; omega)))) | (with_reducible refine b_call ?_ (by with_reducible assumption))))) h3, by (repeat (first | (with_reducible exact Below.refl _ _) | (with_reducible assumption) | (with_reducible refine b_drew ?_) | (with_reducible refine b_drewN ?_ _) | (with_reducible refine b_alloc ?_ _) | ((with_reducible refine b_set ?_ ?_ _); rotate_left; (focus (first | omega | (simp; done) | (simp; omega) | (simp at *; omega)))) | (with_reducible refine b_call ?_ (by with_reducible assumption))))⟩) (fail)
  go_wp2
  all_goals (
    have VD := Lib.hid ((Vr.new w 69 (slotsC f).toArray).drew)
    have BD := Lib.hid (show Below w.heap.size w (w.alloc (.cells (slotsC f).toArray 69)).drew from by (repeat (first | (with_reducible exact Below.refl _ _) | (with_reducible assumption) | (with_reducible refine b_drew ?_) | (with_reducible refine b_drewN ?_ _) | (with_reducible refine b_alloc ?_ _) | ((with_reducible refine b_set ?_ ?_ _); rotate_left; (focus (first | omega | (simp; done) | (simp; omega) | (simp at *; omega)))) | (with_reducible refine b_call ?_ (by with_reducible assumption)))))
    clear hst hsd hlk
    generalize (w.alloc (.cells (slotsC f).toArray 69)).drew = D at VD BD ⊢
    go_loop [19] (fun i => ∃ j : Nat, j ≤ k ∧ i = .int .i64 j ∧ Hid (∀ x, x < j → (f x).isSome = true)) (fun i => k - (intOf i).toNat)
    case atStart => exact ⟨0, by omega, rfl, Lib.hid (fun x hx => absurd hx (by omega))⟩
    case round =>
      obtain ⟨j, hj, rfl, hT⟩ := hrel
      by_cases hlt : j < k
      · have hc : D.cell? ⟨w.heap.size, j * 4 + 3, none⟩ = some (.bool (f j).isSome) := by rw [VD.out.cell, List.getElem?_toArray]; exact slot_at f (by omega)
        rcases hs : (f j).isSome with _ | _
        · rw [hs] at hc
          have E1 := Lib.hid (show compB k pd n = false from compB_no hlt (by rw [HFF.out]; cases h : f j with | none => rfl | some v => rw [h] at hs; cases hs))
          clear hs
          go_wp2
          go_ret
          exact ⟨ret_bool (by rw [E1.out]), BD.out⟩
        · rw [hs] at hc
          have E1 := Lib.hid (show ∀ x, x < j + 1 → (f x).isSome = true from fun x hx => by
            rcases Nat.lt_or_ge x j with h | h
            · exact hT.out x h
            · obtain rfl : x = j := by omega
              exact hs)
          clear hs
          go_wp2
          go_round
          case rel => exact ⟨j + 1, by omega, by go_num, E1⟩
          case measure => simp [intOf]; omega
      · obtain rfl : k = j := by omega
        have E1 := Lib.hid (show compB k pd n = true from compB_yes (by rw [HFF.out]; exact hT.out))
        go_wp2
        go_ret
        exact ⟨ret_bool (by rw [E1.out]), BD.out⟩)
end Go.Proofs.Ytdjmaljldajpiaa
