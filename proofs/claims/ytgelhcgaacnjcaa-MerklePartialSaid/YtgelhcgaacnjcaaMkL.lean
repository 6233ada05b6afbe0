/-
  WHAT IS PROVED HERE: contracts of the reference's Same and Cells. No condition but that the arguments lie in memory, and bounds that every machine's lengths meet.
-/
import Derived.Test.YtgelhcgaacnjcaaMkK
import Derived.Test.YtgelhcgaacnjcaaHlpI
namespace Go.Proofs.Ytgelhcgaacnjcaa
set_option linter.unusedVariables false
open Go.ChangeShapes Go.WideShapes Go.ChangeAt Go.RowKit

section
variable (i1 v1 : Int) (A1 : Option Addr) (m1 c1 : Nat) (p1 : List Int) (i2 v2 : Int) (A2 : Option Addr) (m2 c2 : Nat) (p2 : List Int) (w : World)
set_option maxHeartbeats 2000000 in
theorem same_any (r1 : Rd w w.heap.size 1 A1 m1 (p1.map (Value.int .u64))) (r2 : Rd w w.heap.size 1 A2 m2 (p2.map (Value.int .u64))) (hm1 : m1 ≤ 1000000) :
    Calls Try.prog 23 #[.agg #[.int .i64 i1, .int .i64 v1, .slice A1 m1 c1], .agg #[.int .i64 i2, .int .i64 v2, .slice A2 m2 c2]] w fun e w' => e = .returned (.bool (decide ((i1, v1, p1) = (i2, v2, p2)))) ∧ Below w.heap.size w w' := by
  have hl1 : p1.length = m1 := by have := r1.1; simpa using this
  have hl2 : p2.length = m2 := by have := r2.1; simpa using this
  by_cases e1 : i1 = i2
  · by_cases e2 : v1 = v2
    · by_cases e3 : m1 = m2
      · subst e1 e2 e3
        have E0 := Lib.hid (show decide ((i1, v1, p1) = (i1, v1, p2)) = decide (p1 = p2) from by simp)
        have R1 := Lib.hid r1
        have R2 := Lib.hid r2
        have HL1 := Lib.hid hl1
        have HL2 := Lib.hid hl2
        have b1 : (i1 != i1) = false := bne_self_eq_false i1
        have b2 : (v1 != v1) = false := bne_self_eq_false v1
        have b3 : ((m1 : Int) != (m1 : Int)) = false := bne_self_eq_false _
        clear r1 r2 hl1 hl2
        go_enter Try.func23, Try.ntmps23
        go_wp2
        refine name_world ?_
        intro X hX
        have hB : Below w.heap.size w X := by rw [hX]; (repeat (first | (with_reducible exact Below.refl _ _) | (with_reducible assumption) | (with_reducible refine b_drew ?_) | (with_reducible refine b_drewN ?_ _) | (with_reducible refine b_alloc ?_ _) | ((with_reducible refine b_set ?_ ?_ _); rotate_left; (focus (first | omega | (simp; done) | (simp; omega) | (simp at *; omega)))) | (with_reducible refine b_call ?_ (by with_reducible assumption))))
        have VX := Lib.hid (show Vr X w.heap.size 25 #[.int .i64 i1, .int .i64 v1, .slice A1 m1 c1] from by rw [hX]; exact (Vr.new w _ _).alloc _)
        have VY := Lib.hid (show Vr X (w.heap.size + 1) 25 #[.int .i64 i1, .int .i64 v1, .slice A2 m1 c2] from by rw [hX]; exact vr_new2 w _ _ _)
        have hs : w.heap.size + 1 < X.heap.size := VY.out.lt
        have HBX := Lib.hid hB
        clear hX hB b1 b2 b3
        go_loopw [5] (fun s wr => ∃ k : Nat, k ≤ m1 ∧ s = .int .i64 k ∧ Hid (p1.take k = p2.take k) ∧ Below X.heap.size X wr) (fun s _ => m1 - (intOf s).toNat)
        case atStart => exact ⟨0, by omega, rfl, Lib.hid rfl, Below.refl _ _⟩
        case round =>
          obtain ⟨k, hk, rfl, hT, hBr⟩ := hrel
          have x2 : wr.cell? ⟨w.heap.size, 2, none⟩ = some (.slice A1 m1 c1) := (VX.out.call hBr).cell 2
          have y2 : wr.cell? ⟨w.heap.size + 1, 2, none⟩ = some (.slice A2 m1 c2) := (VY.out.call hBr).cell 2
          have hbw := HBX.out.trans (hBr.mono (show w.heap.size ≤ X.heap.size by omega))
          by_cases hlt : k < m1
          · have d1 : decide ((k : Int) < (m1 : Int)) = true := by simp; omega
            have d2 : decide (k < m1) = true := by simp; omega
            have j1 : (0 : Int) ≤ (k : Int) := by omega
            have j2 : (k : Int) < (m1 : Int) := by omega
            obtain ⟨a1, o1, l1, rfl, ha1, t1⟩ := (R1.out.below hbw (Nat.le_refl _)).openMap hlt
            obtain ⟨a2, o2, l2, rfl, ha2, t2⟩ := (R2.out.below hbw (Nat.le_refl _)).openMap hlt
            have HBW := Lib.hid hbw
            by_cases he : p1[k] = p2[k]
            · have E1 := Lib.hid (take_eq_succ hT.out l1 l2 he)
              obtain ⟨x, hx⟩ : ∃ x, p1[k] = x := ⟨_, rfl⟩
              rw [← he, hx] at t2
              rw [hx] at t1
              have q1 : (x != x) = false := bne_self_eq_false x
              clear he hx hbw
              go_wp2_with fail
              go_quiet (fail)
              go_wp2
              go_roundw
              case rel => exact ⟨k + 1, by omega, by go_num, E1, below_drewN hBr _⟩
              case measure => simp [intOf]; omega
            · have q1 : (p1[k] != p2[k]) = true := by simpa using he
              have E1 := Lib.hid (show decide (p1 = p2) = false from by
                rw [decide_eq_false_iff_not]
                intro e
                subst e
                exact he rfl)
              clear he hbw
              go_wp2_with fail
              go_quiet (fail)
              go_wp2
              go_ret
              exact ⟨ret_bool (by rw [E0.out, E1.out]), below_drewN HBW.out _⟩
          · have d1 : decide ((k : Int) < (m1 : Int)) = false := by simp; omega
            have d2 : decide (k < m1) = false := by simp; omega
            have E1 := Lib.hid (show decide (p1 = p2) = true from by
              rw [decide_eq_true_iff]
              have h := hT.out
              rw [List.take_of_length_le (by rw [HL1.out]; omega), List.take_of_length_le (by rw [HL2.out]; omega)] at h
              exact h)
            go_wp2
            go_ret
            exact ⟨ret_bool (by rw [E0.out, E1.out]), hbw⟩
      · subst e1 e2
        have E1 := Lib.hid (show decide ((i1, v1, p1) = (i1, v1, p2)) = false from by
          rw [decide_eq_false_iff_not]
          intro e
          injection e with _ e
          injection e with _ e
          exact e3 (by rw [← hl1, ← hl2, e]))
        have b1 : (i1 != i1) = false := bne_self_eq_false i1
        have b2 : (v1 != v1) = false := bne_self_eq_false v1
        have b3 : ((m1 : Int) != (m2 : Int)) = true := by rw [bne_iff_ne]; omega
        clear r1 r2 hl1 hl2 e3
        go_enter Try.func23, Try.ntmps23
        go_wp2
        go_ret
        exact ⟨ret_bool (by rw [E1.out]), by (repeat (first | (with_reducible exact Below.refl _ _) | (with_reducible assumption) | (with_reducible refine b_drew ?_) | (with_reducible refine b_drewN ?_ _) | (with_reducible refine b_alloc ?_ _) | ((with_reducible refine b_set ?_ ?_ _); rotate_left; (focus (first | omega | (simp; done) | (simp; omega) | (simp at *; omega)))) | (with_reducible refine b_call ?_ (by with_reducible assumption))))⟩
    · subst e1
      have E1 := Lib.hid (show decide ((i1, v1, p1) = (i1, v2, p2)) = false from by
        rw [decide_eq_false_iff_not]
        intro e
        injection e with _ e
        injection e with e _
        exact e2 e)
      have b1 : (i1 != i1) = false := bne_self_eq_false i1
      have b2 : (v1 != v2) = true := by rw [bne_iff_ne]; exact e2
      clear r1 r2 hl1 hl2 e2
      go_enter Try.func23, Try.ntmps23
      go_wp2
      go_ret
      exact ⟨ret_bool (by rw [E1.out]), by (repeat (first | (with_reducible exact Below.refl _ _) | (with_reducible assumption) | (with_reducible refine b_drew ?_) | (with_reducible refine b_drewN ?_ _) | (with_reducible refine b_alloc ?_ _) | ((with_reducible refine b_set ?_ ?_ _); rotate_left; (focus (first | omega | (simp; done) | (simp; omega) | (simp at *; omega)))) | (with_reducible refine b_call ?_ (by with_reducible assumption))))⟩
  · have E1 := Lib.hid (show decide ((i1, v1, p1) = (i2, v2, p2)) = false from by
      rw [decide_eq_false_iff_not]
      intro e
      injection e with e _
      exact e1 e)
    have b1 : (i1 != i2) = true := by rw [bne_iff_ne]; exact e1
    clear r1 r2 hl1 hl2 e1
    go_enter Try.func23, Try.ntmps23
    go_wp2
    go_ret
    exact ⟨ret_bool (by rw [E1.out]), by (repeat (first | (with_reducible exact Below.refl _ _) | (with_reducible assumption) | (with_reducible refine b_drew ?_) | (with_reducible refine b_drewN ?_ _) | (with_reducible refine b_alloc ?_ _) | ((with_reducible refine b_set ?_ ?_ _); rotate_left; (focus (first | omega | (simp; done) | (simp; omega) | (simp at *; omega)))) | (with_reducible refine b_call ?_ (by with_reducible assumption))))⟩
end
theorem cells_any (A : Option Addr) (n c : Nat) (l : List Int) (w : World) (rd : Rd w w.heap.size 1 A n (l.map (Value.int .i64))) (hn : n ≤ c) (hc : c ≤ maxLen) :
    Calls Try.prog 11 #[.slice A n c] w (RetSl w 3 1 (min n 20) ((l.take 20).map (Value.int .i64))) := by
  have RD := Lib.hid rd
  have HN := Lib.hid hn
  have HC := Lib.hid hc
  clear rd hn hc
  go_enter Try.func11, Try.ntmps11
  go_wp2_with fail
  refine (ints_any A n c l 20 20 _ rfl RD.out HN.out HC.out (by omega)).mono ?_
  rintro e w1 ⟨A', c', rfl, h1, h2, h3, h4⟩
  go_wp2
  go_ret
  exact ⟨A', c', rfl, h1, h2, h3, h4⟩
end Go.Proofs.Ytgelhcgaacnjcaa
