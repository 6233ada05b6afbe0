/-
  WHAT IS PROVED HERE: the walk of the law UnionfindOrder: it returns true at every input, and leaves old memory as it was. Conditions: the arguments' lengths are a machine's.
-/
import Derived.Test.YtjmhibjkbnbefaaUfH
namespace Go.Proofs.Ytjmhibjkbnbefaa
set_option linter.unusedVariables false
open Go.ChangeShapes Go.WideShapes Go.ChangeAt Go.RowKit

def oth1 (E : List (Int × Int)) (j : Nat) : List (Int × Int) := (E.drop j).reverse.map fun e => (e.2, e.1)
def dupE (E : List (Int × Int)) : List (Int × Int) := E.flatMap fun e => [e, e]
theorem oth1_down {E : List (Int × Int)} {j : Nat} (h : j < E.length) : oth1 E j = oth1 E (j + 1) ++ [(E[j].2, E[j].1)] := by
  unfold oth1
  rw [List.drop_eq_getElem_cons h, List.reverse_cons, List.map_append]
  rfl
theorem dup_up {E : List (Int × Int)} {k : Nat} (h : k < E.length) : dupE (E.take (k + 1)) = dupE (E.take k) ++ [E[k], E[k]] := by
  unfold dupE
  rw [List.take_succ_eq_append_getElem h, List.flatMap_append]
  rfl
theorem order_same (n : Nat) (E : List (Int × Int)) (k : Nat) : foldU n idU E = foldU n idU (oth1 E k ++ dupE (E.take k)) := by
  refine foldU_same (fun a b h => ?_) (fun a b h => ?_)
  · rw [← List.take_append_drop k E] at h
    rcases List.mem_append.1 h with h1 | h1
    · exact .inl (List.mem_append_right _ (List.mem_flatMap.2 ⟨_, h1, by simp⟩))
    · exact .inr (List.mem_append_left _ (List.mem_map.2 ⟨(a, b), by simpa using h1, rfl⟩))
  · rcases List.mem_append.1 h with h1 | h1
    · obtain ⟨⟨u, v⟩, h2, h3⟩ := List.mem_map.1 h1
      injection h3 with h3 h4
      subst h3 h4
      exact .inr (List.mem_of_mem_drop (by simpa using h2))
    · obtain ⟨e, h2, h3⟩ := List.mem_flatMap.1 h1
      simp at h3
      subst h3
      exact .inl (List.mem_of_mem_take h2)
theorem oth_bd {E : List (Int × Int)} (h : EdgeBd E) (k : Nat) : EdgeBd (oth1 E k ++ dupE (E.take k)) := by
  intro e he
  rcases List.mem_append.1 he with h1 | h1
  · obtain ⟨x, h2, rfl⟩ := List.mem_map.1 h1
    have := h x (List.mem_of_mem_drop (by simpa using h2))
    exact ⟨this.2, this.1⟩
  · obtain ⟨x, h2, h3⟩ := List.mem_flatMap.1 h1
    simp at h3
    subst h3
    exact h _ (List.mem_of_mem_take h2)

set_option maxRecDepth 100000 in
set_option maxHeartbeats 4000000 in
theorem order_walk (a0 : Int) (A : Option Addr) (n c : Nat) (l : List Int) (t : Int) (w : World) (ha : -9223372036854775808 ≤ a0 ∧ a0 ≤ 9223372036854775807)
    (nc : n ≤ c) (cm : c ≤ maxLen) (ln : l.length = n) (rd : Rd w w.heap.size 1 A n (l.map (Value.int .i64))) (wf : ∀ x ∈ l, (Lit.int .i64 x).wf = true) (ht : -9223372036854775808 ≤ t ∧ t ≤ 9223372036854775807) :
    Calls Try.prog 4 #[.int .i64 a0, .slice A n c, .int .i64 t] w fun e w' => e = .returned (.bool true) ∧ Below w.heap.size w w' := by
  have RD := Lib.hid rd
  have H64 := Lib.hid (fun x hx => bounds_i64 (wf x hx))
  have hn : n ≤ 9223372036854775807 := by unfold maxLen at cm; omega
  obtain ⟨K, hK, hK14⟩ := size_nat a0
  have HK := Lib.hid hK
  have HOK := Lib.hid (edgesOf_ok l)
  have hm30 : min n 30 ≤ 30 := Nat.min_le_right _ _
  have HM := Lib.hid (show (edgesOf l).length = min n 30 from by unfold edgesOf; rw [List.length_take, List.length_map, ln, Nat.min_comm])
  clear rd wf nc cm ln hK
  go_enter Try.func4, Try.ntmps4
  go_wp2_with fail
  refine (size_any a0 _ ha.1 ha.2).mono ?_
  rintro e w_ ⟨rfl, rfl⟩
  rw [HK.out]
  go_wp2_with fail
  refine (edges_any A n c l _ H64.out RD.out hn).mono ?_
  rintro e w1 ⟨A2, c2, rfl, hc2, hm2, own2, hb1⟩
  have R2 := Lib.hid (show Rd w1 w1.heap.size 2 A2 (min n 30) (flat2 (edgesOf l)) from rd_own own2)
  clear own2
  generalize min n 30 = m at *
  generalize edgesOf l = E at *
  have hct := around_bd t ((m : Int) + 1) (by omega)
  go_wp2_with fail
  refine (around_any t ((m : Int) + 1) _ ht.1 ht.2 (by omega) (by omega)).mono ?_
  rintro e w_ ⟨rfl, rfl⟩
  obtain ⟨q, hq⟩ : ∃ q : Nat, around t ((m : Int) + 1) = q := ⟨(around t ((m : Int) + 1)).toNat, by omega⟩
  rw [hq] at hct ⊢
  have hqm : q ≤ m := by omega
  clear hq hct
  go_wp2
  go_loopw [10, 11] (fun s10 s11 wr => ∃ (j : Nat) (A3 : Option Addr) (c3 N : Nat), q ≤ j ∧ j ≤ m ∧ s11 = .int .i64 ((j : Int) - 1) ∧ N + j ≤ m ∧ s10 = .slice A3 N c3 ∧ Hid (wr.ownsRow w1.heap.size 32 2 (.slice A3 N c3) N (flat2 (oth1 E j))) ∧ N ≤ c3 ∧ c3 ≤ maxLen ∧ Below w1.heap.size w1 wr) (fun _ i _ => (intOf i + 1).toNat)
  case atStart => exact ⟨m, none, 0, 0, by omega, by omega, rfl, by omega, rfl, Lib.hid (by unfold oth1; rw [List.drop_of_length_le (by rw [HM.out]; omega)]; exact own_nil _ _ _ _), by omega, by simp [maxLen], Below.refl _ _⟩
  case round =>
    obtain ⟨j, A3, c3, N, hj1, hj2, rfl, hN, rfl, HO, hc3, hm3, hB⟩ := hrel
    have hBw := b_call hb1 hB
    have hzw := hBw.size
    by_cases hlt : q < j
    · obtain ⟨i, rfl⟩ : ∃ i, j = i + 1 := ⟨j - 1, by omega⟩
      obtain ⟨b, o, hl, rfl, hb, hc0, hc1⟩ := (R2.out.below hB (Nat.le_refl _)).openEdge (show i < m from by omega)
      have ED := Lib.hid (oth1_down hl)
      obtain ⟨⟨x, y⟩, hxe⟩ : ∃ x, E[i] = x := ⟨_, rfl⟩
      rw [hxe] at hc0 hc1 ED
      clear hxe
      have hi : (((i + 1 : Nat) : Int) - 1) = (i : Int) := by omega
      rw [hi]
      have him : i < m := by omega
      clear hi
      have hzB := hB.size
      go_wp2_with fail
      go_region_held3 (fun w' => (∀ b o, b < w1.heap.size → w'.cell? ⟨b, o, none⟩ = wr.cell? ⟨b, o, none⟩) ∧ Below w1.heap.size wr w') (first | exact stillB (by assumption) | exact stillB (((Below.refl _ wr).drew).alloc hzB _) | exact stillB ((Below.refl _ wr).drew)) (first
        | (refine step_app _ rfl (.tmp 30) (.tmp 42) slEdge rfl rfl ((own_drew HO.out).alloc _) rfl (rd_lit _ _ _ rfl rfl) (by intro u hu; simp at hu; rcases hu with rfl | rfl <;> rfl) (N + 1) rfl (by unfold maxLen; omega) (by omega) (by simp; omega) ?_; intro A5 c5 Y3 g1 g2 g3 g4 g5; have hbY := below_app (((Below.refl w1.heap.size wr).drew).alloc hzB _) ((own_drew HO.out).alloc _) g4 (Nat.le_refl _) (by simp; omega)))
      go_wp2
      go_roundw
      case rel => exact ⟨i, A5, c5, N + 1, by omega, by omega, by go_num, by omega, rfl, Lib.hid (by rw [ED.out, flat2_append, flat2_one]; exact g3), g1, g2, hB.trans hbY⟩
      case measure => (simp [intOf] <;> omega)
    · obtain rfl : j = q := by omega
      obtain ⟨X, rfl⟩ : ∃ X : World, X = wr := ⟨_, rfl⟩
      have hd : decide ((j : Int) ≤ (j : Int) - 1) = false := by simp; omega
      clear hlt hj1
      go_wp2
      go_loopw [10, 12] (fun s10 s12 wr => ∃ (k : Nat) (A3 : Option Addr) (c3 M : Nat), k ≤ j ∧ s12 = .int .i64 k ∧ M ≤ 30 + 2 * k ∧ s10 = .slice A3 M c3 ∧ Hid (wr.ownsRow w1.heap.size 32 2 (.slice A3 M c3) M (flat2 (oth1 E j ++ dupE (E.take k)))) ∧ M ≤ c3 ∧ c3 ≤ maxLen ∧ Below w1.heap.size w1 wr) (fun _ i _ => j - (intOf i).toNat)
      case atStart => exact ⟨0, A3, c3, N, by omega, rfl, by omega, rfl, Lib.hid (by have h := HO.out; simpa [dupE] using h), hc3, hm3, hB⟩
      case round =>
        obtain ⟨k, A4, c4, M, hk, rfl, hM, rfl, HO4, hc4, hm4, hB4⟩ := hrel
        have hBw4 := b_call hb1 hB4
        have hzw4 := hBw4.size
        have hzB := hB4.size
        by_cases hkj : k < j
        · obtain ⟨b, o, hl, rfl, hb, hc0, hc1⟩ := (R2.out.below hB4 (Nat.le_refl _)).openEdge (show k < m from by omega)
          have ED := Lib.hid (dup_up hl)
          have hkm : k < m := by omega
          obtain ⟨⟨x, y⟩, hxe⟩ : ∃ x, E[k] = x := ⟨_, rfl⟩
          rw [hxe] at hc0 hc1 ED
          clear hxe
          go_wp2_with fail
          go_region_held3 (fun w' => (∀ b o, b < w1.heap.size → w'.cell? ⟨b, o, none⟩ = wr.cell? ⟨b, o, none⟩) ∧ Below w1.heap.size wr w') (first | exact stillB (by assumption) | exact stillB (((Below.refl _ wr).drew).alloc hzB _) | exact stillB ((Below.refl _ wr).drew)) (first
            | (refine step_app _ rfl (.tmp 49) (.tmp 58) slEdge rfl rfl ((own_drew HO4.out).alloc _) rfl (rd_lit _ _ _ rfl rfl) (by intro u hu; simp at hu; rcases hu with h | h | h | h <;> (subst h; rfl)) (M + 2) rfl (by unfold maxLen; omega) (by omega) (by simp; omega) ?_; intro A5 c5 Y3 g1 g2 g3 g4 g5; have hbY := below_app (((Below.refl w1.heap.size wr).drew).alloc hzB _) ((own_drew HO4.out).alloc _) g4 (Nat.le_refl _) (by simp; omega)))
          go_wp2
          go_roundw
          case rel => exact ⟨k + 1, A5, c5, M + 2, by omega, by go_num, by omega, rfl, Lib.hid (by rw [ED.out, ← List.append_assoc, flat2_append]; exact g3), g1, g2, hB4.trans hbY⟩
          case measure => simp [intOf]; omega
        · obtain rfl : k = j := by omega
          have HE2 := Lib.hid (order_same K E k)
          have HS := Lib.hid (groups_small (f := foldU K idU E) (n := K) (by omega))
          have HOB := Lib.hid (oth_bd HOK.out k)
          go_wp2_with fail
          refine (islands_any K A2 m c2 E _ (by omega) (by omega) HOK.out (rd_step R2.out hB4)).mono ?_
          rintro e w5 ⟨A5, c5, vs5, rfl, hc5, hm5, own5, rows5, hb5⟩
          have R5 := Lib.hid (RdRows.of own5 rfl rows5)
          clear own5 rows5
          go_wp2_with fail
          refine (islands_any K A4 M c4 _ _ (by omega) (by omega) HOB.out (rd_step (rd_own HO4.out) hb5)).mono ?_
          rintro e w6 ⟨A6, c6, vs6, rfl, hc6, hm6, own6, rows6, hb6⟩
          have R6 := Lib.hid (RdRows.of own6 rfl rows6)
          clear own6 rows6
          rw [← HE2.out] at R6 hc6 ⊢
          generalize groupsI (foldU K idU E) K = G at *
          go_wp2_with fail
          refine (equal2_same A5 A6 _ c5 _ c6 G _ (R5.out.step hb6) R6.out HS.out).mono ?_
          rintro e w7 ⟨rfl, hb7⟩
          go_wp2_with fail
          refine (lives_any _).mono ?_
          rintro e w8 ⟨rfl, hb8⟩
          go_wp2
          go_ret
          exact ⟨rfl, by (repeat (first | (with_reducible exact Below.refl _ _) | (with_reducible assumption) | (with_reducible refine b_drew ?_) | (with_reducible refine b_drewN ?_ _) | (with_reducible refine b_alloc ?_ _) | ((with_reducible refine b_set ?_ ?_ _); rotate_left; (focus (first | omega | (simp; done) | (simp; omega) | (simp at *; omega)))) | (with_reducible refine b_call ?_ (by with_reducible assumption))))⟩
end Go.Proofs.Ytjmhibjkbnbefaa
