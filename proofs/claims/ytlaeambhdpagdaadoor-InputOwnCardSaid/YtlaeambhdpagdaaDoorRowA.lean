/-
  WHAT IS PROVED HERE: rows of inputs in memory, and the contracts of the reference's Inputs, Row and Equal. No condition but bounds that every machine's lengths meet.
-/
import Derived.Test.YtlaeambhdpagdaaDoorHlpF
import Derived.Test.YtlaeambhdpagdaaDoorInputL1
namespace Go.Proofs.YtlaeambhdpagdaaDoor
set_option linter.unusedVariables false
open Go.ChangeShapes Go.WideShapes Go.ChangeAt Go.RowKit

/-- The cells of a row of inputs. -/
def flat (l : List Inp) : List Value := l.flatMap fun x => [.int .i64 x.1, .int .i64 x.2.1, .int .i64 x.2.2]
theorem flat_length (l : List Inp) : (flat l).length = l.length * 3 := by
  induction l with
  | nil => rfl
  | cons x l ih => rw [flat, List.flatMap_cons, List.length_append, ← flat, ih]; simp; omega
theorem flat_append (l m : List Inp) : flat (l ++ m) = flat l ++ flat m := by simp [flat]
theorem flat_one (x : Inp) : flat [x] = [.int .i64 x.1, .int .i64 x.2.1, .int .i64 x.2.2] := by simp [flat]
theorem flat_cell (l : List Inp) : ∀ u ∈ flat l, u.oneCell' = true := by
  intro u hu
  obtain ⟨x, _, hx⟩ := List.mem_flatMap.1 hu
  simp at hx
  rcases hx with rfl | rfl | rfl <;> rfl
theorem flat_get {l : List Inp} {k : Nat} (h : k < l.length) : (flat l)[k * 3]? = some (.int .i64 l[k].1) ∧ (flat l)[k * 3 + 1]? = some (.int .i64 l[k].2.1) ∧ (flat l)[k * 3 + 2]? = some (.int .i64 l[k].2.2) := by
  induction l generalizing k with
  | nil => simp at h
  | cons x l ih =>
    have hf : flat (x :: l) = [.int .i64 x.1, .int .i64 x.2.1, .int .i64 x.2.2] ++ flat l := by rw [flat, List.flatMap_cons, ← flat]
    rw [hf]
    rcases k with _ | k
    · simp
    · have h' : k < l.length := by simpa using h
      have := ih h'
      rw [show (k + 1) * 3 = k * 3 + 3 from by omega, show k * 3 + 3 + 1 = (k * 3 + 1) + 3 from by omega, show k * 3 + 3 + 2 = (k * 3 + 2) + 3 from by omega]
      rw [List.getElem?_append_right (by simp), List.getElem?_append_right (by simp), List.getElem?_append_right (by simp)]
      simpa using this
/-- An element of a row that is read, opened. -/
theorem Rd.openRow {w : World} {B n k : Nat} {A : Option Addr} {l : List Inp} (h : Rd w B 3 A n (flat l)) (hk : k < n) :
    ∃ b o, ∃ hl : k < l.length, A = some ⟨b, o, none⟩ ∧ b < B ∧ w.cell? ⟨b, o + k * 3, none⟩ = some (.int .i64 l[k].1) ∧ w.cell? ⟨b, o + k * 3 + 1, none⟩ = some (.int .i64 l[k].2.1) ∧ w.cell? ⟨b, o + k * 3 + 2, none⟩ = some (.int .i64 l[k].2.2) := by
  have hn : l.length = n := by
    have := h.1
    rw [flat_length] at this
    omega
  have hl : k < l.length := by omega
  obtain ⟨g0, g1, g2⟩ := flat_get hl
  obtain ⟨b, o, e, hb, hc⟩ := h.2 (by intro e; rw [e] at g0; simp at g0)
  exact ⟨b, o, hl, e, hb, hc _ _ g0, hc _ _ g1, hc _ _ g2⟩
theorem flat_inj {l m : List Inp} (h : flat l = flat m) : l = m := by
  have hl : l.length = m.length := by
    have := congrArg List.length h
    rw [flat_length, flat_length] at this
    omega
  refine List.ext_getElem hl fun k h1 h2 => ?_
  obtain ⟨a0, a1, a2⟩ := flat_get h1
  obtain ⟨b0, b1, b2⟩ := flat_get h2
  rw [h, b0] at a0
  rw [h, b1] at a1
  rw [h, b2] at a2
  simp only [Option.some.injEq, Value.int.injEq, true_and] at a0 a1 a2
  exact (Prod.ext a0 (Prod.ext a1 a2)).symm
theorem slRow : SlT Tryd.prog 40 23 3 24 := .mk' (z := inp (0, 0, 0)) Tryd.underlying40 (by kernel_rfl) rfl (by omega)

theorem take_map_one {α β : Type} (f : α → β) (l : List α) {k : Nat} (h : k < l.length) : (l.map f).take (k + 1) = (l.map f).take k ++ [f l[k]] := by
  rw [List.take_succ_eq_append_getElem (by simpa using h)]
  simp

set_option maxHeartbeats 2000000 in
theorem inputs_any (A : Option Addr) (n c : Nat) (l : List Int) (m : Int) (M : Nat) (w : World) (hm : m = M) (hI : ∀ x ∈ l, -9223372036854775808 ≤ x ∧ x ≤ 9223372036854775807) (rd : Rd w w.heap.size 1 A n (l.map (Value.int .i64))) (hn : n ≤ 9223372036854775807) (hM : M ≤ 1000000) :
    Calls Tryd.prog 21 #[.slice A n c, .int .i64 m] w (RetSl w 23 3 (min n M) (flat ((l.map inpOf).take M))) := by
  subst hm
  have hll : l.length = n := by have := rd.1; simpa using this
  have RD := Lib.hid rd
  have HL := Lib.hid hll
  clear rd hll
  go_enter Tryd.func21, Tryd.ntmps21
  go_wp2
  go_loopw [5, 6] (fun v i wr => ∃ (k : Nat) (A' : Option Addr) (c' : Nat), k ≤ n ∧ k ≤ M ∧ i = .int .i64 k ∧ v = .slice A' k c' ∧ wr.ownsRow w.heap.size 23 3 (.slice A' k c') k (flat ((l.map inpOf).take k)) ∧ k ≤ c' ∧ c' ≤ maxLen ∧ Below w.heap.size w wr) (fun _ i _ => n - (intOf i).toNat)
  case atStart => exact ⟨0, none, 0, by omega, by omega, rfl, rfl, own_nil _ _ _ _, by omega, by simp [maxLen], Below.refl _ _⟩
  case round =>
    obtain ⟨k, A', c', hk, hkM, rfl, rfl, hown, hc3, hc4, hB⟩ := hrel
    by_cases hlt : k < n
    · by_cases hlM : k < M
      · obtain ⟨b, o, hl, rfl, hb, hcell⟩ := (RD.out.below hB (Nat.le_refl _)).openMap hlt
        have hi := hI _ (List.getElem_mem hl)
        have E1 := Lib.hid (take_map_one inpOf l hl)
        obtain ⟨x, hx⟩ : ∃ x, l[k] = x := ⟨_, rfl⟩
        rw [hx] at hcell hi
        have HX := Lib.hid hx
        clear hx
        have OW := Lib.hid hown
        clear hown
        go_wp2_with fail
        refine (of_any x _ hi.1 hi.2).mono ?_
        rintro e w1 ⟨rfl, hb1⟩
        have O1 := Lib.hid (own_below OW.out hb1)
        have hB1 := b_call hB hb1
        have hz1 := hB1.size
        go_wp2_with (at_builtin; refine wpList_app _ rfl (.tmp 18) (.tmp 24) slRow rfl rfl (O1.out.alloc _) rfl (rd_lit w1 _ _ rfl rfl) (by rw [← flat_one]; exact flat_cell _) (k + 1) rfl (by unfold maxLen; omega) (by omega) (by simp; omega) ?_; intro A2 c2 w2 g1 g2 g3 g4 _)
        go_roundw
        case rel => exact ⟨k + 1, A2, c2, by omega, by omega, by go_num, rfl, by rw [E1.out, HX.out, flat_append, flat_one]; exact g3, g1, g2, below_app (b_alloc hB1 _) (O1.out.alloc _) g4 (Nat.le_refl _) (by simp; omega)⟩
        case measure => simp [intOf]; omega
      · obtain rfl : M = k := by omega
        have E1 := Lib.hid (Nat.min_eq_right (by omega : M ≤ n))
        go_wp2
        go_ret
        exact ⟨A', c', by rw [E1.out]; rfl, by rw [E1.out]; exact hc3, hc4, by rw [E1.out]; exact hown, hB⟩
    · obtain rfl : n = k := by omega
      have E1 := Lib.hid (Nat.min_eq_left (by omega : n ≤ M))
      have E2 := Lib.hid (show (l.map inpOf).take n = (l.map inpOf).take M from by rw [List.take_of_length_le (by rw [List.length_map, HL.out]; omega), List.take_of_length_le (by rw [List.length_map, HL.out]; omega)])
      go_wp2
      go_ret
      exact ⟨A', c', by rw [E1.out]; rfl, by rw [E1.out]; exact hc3, hc4, by rw [E1.out, ← E2.out]; exact hown, hB⟩

set_option maxHeartbeats 2000000 in
theorem refrow_any (A : Option Addr) (n c : Nat) (l : List Inp) (w : World) (hV : ∀ x ∈ l, Val x) (rd : Rd w w.heap.size 3 A n (flat l)) (hn : n ≤ 1000000000000) :
    Calls Tryd.prog 26 #[.slice A n c] w (RetSl w 5 1 n ((l.map code).map (Value.int .u8))) := by
  have hll : l.length = n := by have := rd.1; rw [flat_length] at this; omega
  have RD := Lib.hid rd
  have HL := Lib.hid hll
  clear rd hll
  go_enter Tryd.func26, Tryd.ntmps26
  go_wp2
  go_loopw [3, 4] (fun v i wr => ∃ (k : Nat) (A' : Option Addr) (c' : Nat), k ≤ n ∧ i = .int .i64 k ∧ v = .slice A' k c' ∧ wr.ownsRow w.heap.size 5 1 (.slice A' k c') k (((l.map code).take k).map (Value.int .u8)) ∧ k ≤ c' ∧ c' ≤ maxLen ∧ Below w.heap.size w wr) (fun _ i _ => n - (intOf i).toNat)
  case atStart => exact ⟨0, none, 0, by omega, rfl, rfl, own_nil _ _ _ _, by omega, by simp [maxLen], Below.refl _ _⟩
  case round =>
    obtain ⟨k, A', c', hk, rfl, rfl, hown, hc3, hc4, hB⟩ := hrel
    by_cases hlt : k < n
    · obtain ⟨b, o, hl, rfl, hb, hcell0, hcell1, hcell2⟩ := (RD.out.below hB (Nat.le_refl _)).openRow hlt
      have hi := hV _ (List.getElem_mem hl)
      have E1 := Lib.hid (take_map_one code l hl)
      obtain ⟨⟨x, y, z⟩, hx⟩ : ∃ x, l[k] = x := ⟨_, rfl⟩
      rw [hx] at hcell0 hcell1 hcell2 hi
      have HX := Lib.hid hx
      clear hx
      have OW := Lib.hid hown
      clear hown
      go_wp2_with fail
      refine (refencode3 x y z _ hi).mono ?_
      rintro e w1 ⟨rfl, hb1⟩
      have O1 := Lib.hid (own_below OW.out hb1)
      have hB1 := b_call hB hb1
      have hz1 := hB1.size
      go_wp2_with (at_builtin; refine wpList_app _ rfl (.tmp 11) (.tmp 17) slBytes rfl rfl (O1.out.alloc _) rfl (rd_lit w1 _ _ rfl rfl) (by intro u hu; simp at hu; subst hu; rfl) (k + 1) rfl (by unfold maxLen; omega) (by omega) (by simp; omega) ?_; intro A2 c2 w2 g1 g2 g3 g4 _)
      go_roundw
      case rel => exact ⟨k + 1, A2, c2, by omega, by go_num, rfl, by rw [E1.out, HX.out, List.map_append]; exact g3, g1, g2, below_app (b_alloc hB1 _) (O1.out.alloc _) g4 (Nat.le_refl _) (by simp; omega)⟩
      case measure => simp [intOf]; omega
    · obtain rfl : n = k := by omega
      have E2 := Lib.hid (show (l.map code).take n = l.map code from by rw [List.take_of_length_le (by rw [List.length_map, HL.out]; omega)])
      go_wp2
      go_ret
      exact ⟨A', c', rfl, hc3, hc4, by rw [← E2.out]; exact hown, hB⟩

theorem take_eq_succ' {α : Type} {l l' : List α} {k : Nat} (h : l.take k = l'.take k) (h1 : k < l.length) (h2 : k < l'.length) (he : l[k] = l'[k]) : l.take (k + 1) = l'.take (k + 1) := by
  rw [List.take_succ_eq_append_getElem h1, List.take_succ_eq_append_getElem h2, h, he]
set_option maxHeartbeats 2000000 in
theorem equal_any (A A' : Option Addr) (n c n' c' : Nat) (l l' : List Inp) (w : World) (rd : Rd w w.heap.size 3 A n (flat l)) (rd' : Rd w w.heap.size 3 A' n' (flat l')) (hn : n ≤ 1000000000000) (hn' : n' ≤ 1000000000000) :
    Calls Tryd.prog 24 #[.slice A n c, .slice A' n' c'] w fun e w' => e = .returned (.bool (decide (l = l'))) ∧ Below w.heap.size w w' := by
  have hll : l.length = n := by have := rd.1; rw [flat_length] at this; omega
  have hll' : l'.length = n' := by have := rd'.1; rw [flat_length] at this; omega
  have hne := fun W x y z x' y' z' => run_neq3 x y z x' y' z' W
  by_cases hnn : n = n'
  · subst hnn
    have RD := Lib.hid rd
    have RD' := Lib.hid rd'
    have HL := Lib.hid hll
    have HL' := Lib.hid hll'
    clear rd rd' hll hll'
    go_enter Tryd.func24, Tryd.ntmps24
    go_wp2
    go_loopw [5] (fun i wr => ∃ k : Nat, k ≤ n ∧ i = .int .i64 k ∧ Hid (l.take k = l'.take k) ∧ Below w.heap.size w wr) (fun i _ => n - (intOf i).toNat)
    case atStart => exact ⟨0, by omega, rfl, rfl, Below.refl _ _⟩
    case round =>
      obtain ⟨k, hk, rfl, hT, hB⟩ := hrel
      by_cases hlt : k < n
      · obtain ⟨b, o, hl, rfl, hb, hcell0, hcell1, hcell2⟩ := (RD.out.below hB (Nat.le_refl _)).openRow hlt
        obtain ⟨b', o', hl', rfl, hb', hcell0', hcell1', hcell2'⟩ := (RD'.out.below hB (Nat.le_refl _)).openRow hlt
        by_cases he : l[k] = l'[k]
        · have E1 := Lib.hid (take_eq_succ' hT.out hl hl' he)
          obtain ⟨⟨x, y, z⟩, hx⟩ : ∃ x, l[k] = x := ⟨_, rfl⟩
          rw [← he, hx] at hcell0' hcell1' hcell2'
          rw [hx] at hcell0 hcell1 hcell2
          have hq := eqInp_self (x, y, z)
          clear he hx
          go_wp2_with fail
          go_quiet (fail)
          go_wp2
          go_roundw
          case rel => exact ⟨k + 1, by omega, by go_num, E1.out, below_drewN hB _⟩
          case measure => simp [intOf]; omega
        · have E1 := Lib.hid (show decide (l = l') = false from by
            rw [decide_eq_false_iff_not]
            intro e
            subst e
            exact he rfl)
          obtain ⟨⟨x, y, z⟩, hx⟩ : ∃ x, l[k] = x := ⟨_, rfl⟩
          obtain ⟨⟨x', y', z'⟩, hx'⟩ : ∃ x, l'[k] = x := ⟨_, rfl⟩
          rw [hx', hx] at he
          rw [hx'] at hcell0' hcell1' hcell2'
          rw [hx] at hcell0 hcell1 hcell2
          have hq : eqInp (x, y, z) (x', y', z') = false := by unfold eqInp; exact decide_eq_false he
          clear he hx hx'
          go_wp2_with fail
          go_quiet (fail)
          go_wp2
          go_ret
          exact ⟨ret_bool (by rw [E1.out]), below_drewN hB _⟩
      · have E1 := Lib.hid (show decide (l = l') = true from by
          rw [decide_eq_true_iff]
          have h := hT.out
          rw [List.take_of_length_le (by rw [HL.out]; omega), List.take_of_length_le (by rw [HL'.out]; omega)] at h
          exact h)
        go_wp2
        go_ret
        exact ⟨ret_bool (by rw [E1.out]), hB⟩
  · have E1 := Lib.hid (show decide (l = l') = false from by
      rw [decide_eq_false_iff_not]
      intro e
      subst e
      omega)
    have hq : ((n : Int) != (n' : Int)) = true := by
      rw [bne_iff_ne]
      omega
    clear hnn rd rd' hll hll'
    go_enter Tryd.func24, Tryd.ntmps24
    go_wp2
    go_ret
    exact ⟨ret_bool (by rw [E1.out]), Below.refl _ _⟩
end Go.Proofs.YtlaeambhdpagdaaDoor
