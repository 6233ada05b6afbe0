/-
  WHAT IS PROVED HERE: the walk of the law InputRound: it returns true at every input, and leaves old memory as it was. Conditions: the arguments' lengths are a machine's, and the table of package input is laid.
-/
import Derived.Test.YtlaeambhdpagdaaDoorRowD
namespace Go.Proofs.YtlaeambhdpagdaaDoor
set_option linter.unusedVariables false
open Go.ChangeShapes Go.WideShapes Go.ChangeAt Go.RowKit

theorem dec_codes {l : List Inp} (h : ∀ x ∈ l, Val x) : (l.map code).map dec = l := by
  rw [List.map_map]
  conv => rhs; rw [← List.map_id l]
  exact List.map_congr_left fun x hx => dec_code (h x hx)
theorem good_codes {l : List Inp} (h : ∀ x ∈ l, Val x) : Good (l.map code) := by
  intro x hx
  obtain ⟨y, hy, rfl⟩ := List.mem_map.1 hx
  exact (code_bd (h y hy)).2
theorem codes_bytes {l : List Inp} (h : ∀ x ∈ l, Val x) : ∀ x ∈ l.map code, 0 ≤ x ∧ x ≤ 255 := by
  intro x hx
  obtain ⟨y, hy, rfl⟩ := List.mem_map.1 hx
  have := code_bd (h y hy)
  omega
theorem parse_round {l : List Inp} (h : ∀ x ∈ l, Val x) (h1 : 1 ≤ l.length) (h8 : l.length ≤ 8) : parseE (l.map code) (l.length : Int) = 0 ∧ parseL (l.map code) (l.length : Int) = l := by
  have e : parseE (l.map code) (l.length : Int) = 0 := by
    unfold parseE
    rw [if_neg (by omega), if_neg (by rw [List.length_map]; omega), if_neg (by rw [List.length_map]; omega), if_pos (good_codes h)]
  refine ⟨e, ?_⟩
  unfold parseL
  rw [if_pos e, dec_codes h]
theorem parse_short {L : List Int} {p : Int} (h1 : 1 ≤ p) (h8 : p ≤ 8) (h : (L.length : Int) < p) : parseE L p = 7 ∧ parseL L p = [] := by
  have e : parseE L p = 7 := by
    unfold parseE
    rw [if_neg (by omega), if_pos h]
  exact ⟨e, by unfold parseL; rw [if_neg (by omega)]⟩
theorem parse_long {L : List Int} {p : Int} (h1 : 1 ≤ p) (h8 : p ≤ 8) (h : p < (L.length : Int)) : parseE L p = 8 ∧ parseL L p = [] := by
  have e : parseE L p = 8 := by
    unfold parseE
    rw [if_neg (by omega), if_neg (by omega), if_pos h]
  exact ⟨e, by unfold parseL; rw [if_neg (by omega)]⟩
theorem RetRow.done {w : World} {rows : List Inp} {code code' : Int} {rows' : List Inp} {e : Ending} {w' : World} (h : RetRow w rows code e w') (hc : code = code' ∧ rows = rows') : RetRow w rows' code' e w' := by
  obtain ⟨rfl, rfl⟩ := hc
  exact h
theorem equal_same (A A' : Option Addr) (n c n' c' : Nat) (l : List Inp) (w : World) (rd : Rd w w.heap.size 3 A n (flat l)) (rd' : Rd w w.heap.size 3 A' n' (flat l)) (hn : n ≤ 1000000000000) (hn' : n' ≤ 1000000000000) :
    Calls Tryd.prog 24 #[.slice A n c, .slice A' n' c'] w fun e w' => e = .returned (.bool true) ∧ Below w.heap.size w w' :=
  (equal_any A A' n c n' c' l l w rd rd' hn hn').mono fun e w' ⟨he, hw⟩ => ⟨by rw [he]; simp, hw⟩
/-- The row that both laws make: up to seven inputs and one more. -/
def insOf (l : List Int) (n : Int) : List Inp := (l.map inpOf).take 7 ++ [inpOf n]
theorem insOf_val (l : List Int) (n : Int) : ∀ x ∈ insOf l n, Val x := by
  intro x hx
  rcases List.mem_append.1 hx with h | h
  · exact inps_val l 7 x h
  · simp at h
    subst h
    exact inpOf_val n
theorem insOf_len (l : List Int) (n : Int) {m : Nat} (h : l.length = m) : (insOf l n).length = min m 7 + 1 := by
  unfold insOf
  rw [List.length_append, List.length_take, List.length_map, h, Nat.min_comm]
  rfl

set_option maxRecDepth 100000 in
set_option maxHeartbeats 4000000 in
theorem round_walk (A : Option Addr) (n c : Nat) (l : List Int) (a : Int) (w : World)
    (nc : n ≤ c) (cm : c ≤ maxLen) (ln : l.length = n) (rd : Rd w w.heap.size 1 A n (l.map (Value.int .i64))) (wf : ∀ x ∈ l, (Lit.int .i64 x).wf = true) (ha : -9223372036854775808 ≤ a ∧ a ≤ 9223372036854775807) (hT : Tab w) :
    Calls Tryd.prog 8 #[.slice A n c, .int .i64 a] w fun e w' => e = .returned (.bool true) ∧ Below w.heap.size w w' := by
  have RD := Lib.hid rd
  have TT := Lib.hid hT
  have H64 := Lib.hid (fun x hx => bounds_i64 (wf x hx))
  have hn : n ≤ 9223372036854775807 := by unfold maxLen at cm; omega
  have HV := Lib.hid (insOf_val l a)
  have HLen := Lib.hid (insOf_len l a ln)
  have hm7 : min n 7 ≤ 7 := Nat.min_le_right _ _
  have HIN := Lib.hid (show insOf l a = (l.map inpOf).take 7 ++ [inpOf a] from rfl)
  clear rd wf nc cm ln hT
  go_enter Tryd.func8, Tryd.ntmps8
  go_wp2_with fail
  refine (inputs_any A n c l 7 7 _ rfl H64.out RD.out hn (by omega)).mono ?_
  rintro e w1 ⟨A1, c1, rfl, hc1, hm1, own1, hb1⟩
  have O1 := Lib.hid own1
  clear own1
  generalize min n 7 = m at *
  generalize insOf l a = I at *
  go_wp2_with fail
  refine (of_any a _ ha.1 ha.2).mono ?_
  rintro e w2 ⟨rfl, hb2⟩
  have O2 := Lib.hid (own_below O1.out hb2)
  have hB2 : Below w.heap.size w w2 := by (repeat (first | (with_reducible exact Below.refl _ _) | (with_reducible assumption) | (with_reducible refine b_drew ?_) | (with_reducible refine b_drewN ?_ _) | (with_reducible refine b_alloc ?_ _) | ((with_reducible refine b_set ?_ ?_ _); rotate_left; (focus (first | omega | (simp; done) | (simp; omega) | (simp at *; omega)))) | (with_reducible refine b_call ?_ (by with_reducible assumption))))
  have hz2 := hB2.size
  go_wp2_with (first
    | (at_builtin; refine wpList_app _ rfl (.tmp 14) (.tmp 17) slRow rfl rfl (O2.out.alloc _) rfl (rd_lit _ _ _ rfl rfl) (by rw [← flat_one]; exact flat_cell _) (m + 1) rfl (by unfold maxLen; omega) (by omega) (by simp; omega) ?_; intro A3 c3 w3 g1 g2 g3 g4 g5; have O3 := Lib.hid (show w3.ownsRow w.heap.size 23 3 (.slice A3 (m + 1) c3) (m + 1) (flat I) from by rw [HIN.out, flat_append, flat_one]; exact g3); have hB3 := below_app (b_alloc hB2 _) (O2.out.alloc _) g4 (Nat.le_refl _) (by simp; omega); clear g1 g2 g3 g4 g5)
    | (go_at_call 25; refine (row_any A3 (m + 1) c3 I _ HV.out (rd_own O3.out) (by omega)).mono ?_; rintro e w4 ⟨A4, c4, rfl, hc4, hm4, own4, hb4⟩; have O4 := Lib.hid own4; clear own4))
  have hB4 := b_call hB3 hb4
  have hCL := Lib.hid (show (I.map code).length = m + 1 from by rw [List.length_map]; exact HLen.out)
  have HP1 := Lib.hid (show parseE (I.map code) ((m + 1 : Nat) : Int) = 0 ∧ parseL (I.map code) ((m + 1 : Nat) : Int) = I from by
    have h := parse_round HV.out (by rw [HLen.out]; omega) (by rw [HLen.out]; omega)
    rw [HLen.out] at h
    exact h)
  have HP2 := Lib.hid (show parseE ((I.map code).take m) ((m + 1 : Nat) : Int) = 7 ∧ parseL ((I.map code).take m) ((m + 1 : Nat) : Int) = [] from parse_short (by omega) (by omega) (by rw [List.length_take, hCL.out]; omega))
  have HP3 := Lib.hid (show parseE (I.map code ++ [0]) ((m + 1 : Nat) : Int) = 8 ∧ parseL (I.map code ++ [0]) ((m + 1 : Nat) : Int) = [] from parse_long (by omega) (by omega) (by rw [List.length_append, hCL.out]; simp; omega))
  have HB := Lib.hid (codes_bytes HV.out)
  have HB2 := Lib.hid (show ∀ x ∈ (I.map code).take m, 0 ≤ x ∧ x ≤ 255 from fun x hx => HB.out x (List.mem_of_mem_take hx))
  have HB3 := Lib.hid (show ∀ x ∈ I.map code ++ [0], 0 ≤ x ∧ x ≤ 255 from fun x hx => by
    rcases List.mem_append.1 hx with h | h
    · exact HB.out x h
    · simp at h; omega)
  refine (parse_any A4 (m + 1) c4 (I.map code) ((m + 1 : Nat) : Int) _ (by omega) HB.out (rd_own O4.out) (by omega) (TT.out.below hB4)).mono ?_
  intro e w5 h5
  obtain ⟨A5, c5, rfl, hc5, hm5, own5, hb5⟩ := h5.done HP1.out
  rw [HLen.out] at hc5 own5 ⊢
  have O5 := Lib.hid own5
  have hB5 := b_call hB4 hb5
  have O45 := Lib.hid (own_below O4.out hb5)
  clear own5
  have hsl := fun (W : World) (K : Nat) (hK : K ≤ c4) => run_slice_to slBytes A4 (m + 1) c4 .i64 (K : Int) (by omega) (by omega) W
  simp only [Int.toNat_natCast] at hsl
  have hslm := fun W => hsl W m (by omega)
  clear hsl
  rcases Nat.eq_zero_or_pos m with hm0 | hm0
  · have HP20 := Lib.hid (show parseE ((I.map code).take 0) ((m + 1 : Nat) : Int) = 7 ∧ parseL ((I.map code).take 0) ((m + 1 : Nat) : Int) = [] from parse_short (by omega) (by omega) (by first | (simp; done) | (simp; omega)))
    have HB20 := Lib.hid (show ∀ x ∈ (I.map code).take 0, 0 ≤ x ∧ x ≤ 255 from fun x hx => by simp at hx)
    have hm1' : ¬ 0 < m := by omega
    have H0 := Lib.hid hm0
    clear hm0
    go_wp2_with fail
    refine (parse_any A4 0 c4 ((I.map code).take 0) ((m + 1 : Nat) : Int) _ (by omega) HB20.out (by have h := (rd_own O45.out).take (k := 0) (by omega); simpa using h) (by omega) (TT.out.below hB5)).mono ?_
    intro e w6 h6
    obtain ⟨A6, c6, rfl, _, _, _, hb6⟩ := h6.done HP20.out
    clear hm1'
    have O46 := Lib.hid (own_below O45.out hb6)
    have hB6 := b_call hB5 hb6
    clear hslm
    have HM8 := Lib.hid (show min (m + 1) 8 = m + 1 ∧ (I.map code).take 8 = I.map code from ⟨Nat.min_eq_left (by omega), List.take_of_length_le (by rw [hCL.out]; omega)⟩)
    go_wp2_with fail
    refine (few_any A4 (m + 1) c4 (I.map code) 8 8 _ rfl (rd_own O46.out) hc4 hm4 (by omega)).mono ?_
    rintro e w7 ⟨A7, c7, h7, hc7, hm7', own7, hb7⟩
    rw [HM8.out.1, HM8.out.2] at own7
    rw [HM8.out.1] at h7 hc7
    subst h7
    have O7 := Lib.hid own7
    have hB7 := b_call hB6 hb7
    have hz7 := hb7.size
    clear own7
    go_wp2_with (first
      | (at_builtin; refine wpList_app _ rfl (.tmp 42) (.tmp 43) slBytes rfl rfl (O7.out.alloc _) rfl (rd_lit _ _ _ rfl rfl) (by intro u hu; simp at hu; subst hu; rfl) (m + 2) rfl (by unfold maxLen; omega) (by omega) (by simp; omega) ?_; intro A8 c8 w8 g1 g2 g3 g4 g5; have O8 := Lib.hid (show w8.ownsRow w6.heap.size 5 1 (.slice A8 (m + 2) c8) (m + 2) ((I.map code ++ [0]).map (Value.int .u8)) from by rw [List.map_append]; exact g3); have hb8 := below_app (b_alloc hb7 _) (O7.out.alloc _) g4 (Nat.le_refl _) (by simp; exact Nat.le_succ_of_le hb7.size); have hB8 := b_call hB6 hb8; clear g1 g2 g3 g4 g5)
      | (go_at_call 22; refine (parse_any A8 (m + 2) c8 (I.map code ++ [0]) ((m + 1 : Nat) : Int) _ (by omega) HB3.out (rd_own O8.out) (by omega) (TT.out.below hB8)).mono ?_; intro e w9 h9; obtain ⟨A9, c9, rfl, _, _, _, hb9⟩ := h9.done HP3.out)
      | (go_at_call 24; refine (equal_same A3 A5 (m + 1) _ (m + 1) _ I _ (rd_step (rd_step (rd_step (rd_step (rd_step (rd_own O3.out) hb4) hb5) hb6) hb8) hb9) (rd_step (rd_step (rd_step (rd_own O5.out) hb6) hb8) hb9) (by omega) (by omega)).mono ?_; rintro e w10 ⟨rfl, hb10⟩)
      | (go_at_call 15; refine (lives_any _).mono ?_; rintro e w11 ⟨rfl, hb11⟩))
    go_ret
    exact ⟨rfl, b_call (b_call (b_call hB8 hb9) hb10) hb11⟩
  · go_wp2_with fail
    refine (parse_any A4 m c4 ((I.map code).take m) ((m + 1 : Nat) : Int) _ (by omega) HB2.out (by have h := (rd_own O45.out).take (k := m) (by omega); rw [Nat.mul_one, ← List.map_take] at h; exact h) (by omega) (TT.out.below hB5)).mono ?_
    intro e w6 h6
    obtain ⟨A6, c6, rfl, _, _, _, hb6⟩ := h6.done HP2.out
    clear hm0
    have O46 := Lib.hid (own_below O45.out hb6)
    have hB6 := b_call hB5 hb6
    clear hslm
    have HM8 := Lib.hid (show min (m + 1) 8 = m + 1 ∧ (I.map code).take 8 = I.map code from ⟨Nat.min_eq_left (by omega), List.take_of_length_le (by rw [hCL.out]; omega)⟩)
    go_wp2_with fail
    refine (few_any A4 (m + 1) c4 (I.map code) 8 8 _ rfl (rd_own O46.out) hc4 hm4 (by omega)).mono ?_
    rintro e w7 ⟨A7, c7, h7, hc7, hm7', own7, hb7⟩
    rw [HM8.out.1, HM8.out.2] at own7
    rw [HM8.out.1] at h7 hc7
    subst h7
    have O7 := Lib.hid own7
    have hB7 := b_call hB6 hb7
    have hz7 := hb7.size
    clear own7
    go_wp2_with (first
      | (at_builtin; refine wpList_app _ rfl (.tmp 42) (.tmp 43) slBytes rfl rfl (O7.out.alloc _) rfl (rd_lit _ _ _ rfl rfl) (by intro u hu; simp at hu; subst hu; rfl) (m + 2) rfl (by unfold maxLen; omega) (by omega) (by simp; omega) ?_; intro A8 c8 w8 g1 g2 g3 g4 g5; have O8 := Lib.hid (show w8.ownsRow w6.heap.size 5 1 (.slice A8 (m + 2) c8) (m + 2) ((I.map code ++ [0]).map (Value.int .u8)) from by rw [List.map_append]; exact g3); have hb8 := below_app (b_alloc hb7 _) (O7.out.alloc _) g4 (Nat.le_refl _) (by simp; exact Nat.le_succ_of_le hb7.size); have hB8 := b_call hB6 hb8; clear g1 g2 g3 g4 g5)
      | (go_at_call 22; refine (parse_any A8 (m + 2) c8 (I.map code ++ [0]) ((m + 1 : Nat) : Int) _ (by omega) HB3.out (rd_own O8.out) (by omega) (TT.out.below hB8)).mono ?_; intro e w9 h9; obtain ⟨A9, c9, rfl, _, _, _, hb9⟩ := h9.done HP3.out)
      | (go_at_call 24; refine (equal_same A3 A5 (m + 1) _ (m + 1) _ I _ (rd_step (rd_step (rd_step (rd_step (rd_step (rd_own O3.out) hb4) hb5) hb6) hb8) hb9) (rd_step (rd_step (rd_step (rd_own O5.out) hb6) hb8) hb9) (by omega) (by omega)).mono ?_; rintro e w10 ⟨rfl, hb10⟩)
      | (go_at_call 15; refine (lives_any _).mono ?_; rintro e w11 ⟨rfl, hb11⟩))
    go_ret
    exact ⟨rfl, b_call (b_call (b_call hB8 hb9) hb10) hb11⟩
end Go.Proofs.YtlaeambhdpagdaaDoor
