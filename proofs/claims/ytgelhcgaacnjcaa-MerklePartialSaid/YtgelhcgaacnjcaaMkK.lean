/-
  WHAT IS PROVED HERE: contracts of the reference's Verify and Same. No condition but that the proofs lie in memory, and bounds that every machine's lengths meet.
-/
import Derived.Test.YtgelhcgaacnjcaaMkJ
namespace Go.Proofs.Ytgelhcgaacnjcaa
set_option linter.unusedVariables false
open Go.ChangeShapes Go.WideShapes Go.ChangeAt Go.RowKit

section
variable (root : Int) (n : Nat) (ix v : Int) (A : Option Addr) (m c : Nat) (prf : List Int) (w : World)
theorem rheight_q (n : Nat) (w : World) (hn : n ≤ 65536) :
    Calls Try.prog 24 #[.int .i64 n] w fun e w' => e = .returned (.int .i64 (hgt n)) ∧ w' = w := (rheight_any n w hn).mono fun e w' h => ⟨h.1, h.2.symm⟩
set_option maxHeartbeats 2000000 in
theorem rverify_no (hn : n ≤ 65536) (hl : prf.length = m) (hno : ¬ (0 ≤ ix ∧ ix < n ∧ prf.length = hgt n)) :
    Calls Try.prog 17 #[.int .u64 root, .int .i64 n, .agg #[.int .i64 ix, .int .i64 v, .slice A m c]] w fun e w' => e = .returned (.bool (verB root n ix v prf)) ∧ Below w.heap.size w w' := by
  rw [verB_no (by simpa using hno)]
  rw [hl] at hno
  clear hl
  by_cases c1 : ix < 0
  · have d1 : decide (ix < 0) = true := by simpa using c1
    go_enter Try.func17, Try.ntmps17
    go_wp2
    refine name_world ?_
    intro X hX
    have hB : Below w.heap.size w X := by rw [hX]; (repeat (first | (with_reducible exact Below.refl _ _) | (with_reducible assumption) | (with_reducible refine b_drew ?_) | (with_reducible refine b_drewN ?_ _) | (with_reducible refine b_alloc ?_ _) | ((with_reducible refine b_set ?_ ?_ _); rotate_left; (focus (first | omega | (simp; done) | (simp; omega) | (simp at *; omega)))) | (with_reducible refine b_call ?_ (by with_reducible assumption))))
    obtain ⟨v1, v2, v3⟩ := (show Vr X w.heap.size 25 #[.int .i64 ix, .int .i64 v, .slice A m c] from by rw [hX]; exact Vr.new w _ _).facts
    clear hX
    go_quiet (fail)
    go_wp2
    go_ret
    exact ⟨rfl, below_drewN hB _⟩
  · have d1 : decide (ix < 0) = false := by simpa using c1
    by_cases c2 : (n : Int) ≤ ix
    · have d2 : decide ((n : Int) ≤ ix) = true := by simpa using c2
      go_enter Try.func17, Try.ntmps17
      go_wp2
      refine name_world ?_
      intro X hX
      have hB : Below w.heap.size w X := by rw [hX]; (repeat (first | (with_reducible exact Below.refl _ _) | (with_reducible assumption) | (with_reducible refine b_drew ?_) | (with_reducible refine b_drewN ?_ _) | (with_reducible refine b_alloc ?_ _) | ((with_reducible refine b_set ?_ ?_ _); rotate_left; (focus (first | omega | (simp; done) | (simp; omega) | (simp at *; omega)))) | (with_reducible refine b_call ?_ (by with_reducible assumption))))
      obtain ⟨v1, v2, v3⟩ := (show Vr X w.heap.size 25 #[.int .i64 ix, .int .i64 v, .slice A m c] from by rw [hX]; exact Vr.new w _ _).facts
      clear hX
      go_quiet (fail)
      go_wp2
      go_ret
      exact ⟨rfl, below_drewN hB _⟩
    · have d2 : decide ((n : Int) ≤ ix) = false := by simpa using c2
      have hm : ¬ m = hgt n := fun h => hno ⟨by omega, by omega, h⟩
      obtain ⟨q, hq⟩ : ∃ q, hgt n = q := ⟨_, rfl⟩
      have HH := Lib.hid (rheight_q n)
      rw [hq] at hm HH
      have d3 : ((m : Int) != (q : Int)) = true := by rw [bne_iff_ne]; omega
      clear hno c1 c2 hq hm
      go_enter Try.func17, Try.ntmps17
      go_wp2
      refine name_world ?_
      intro X hX
      have hB : Below w.heap.size w X := by rw [hX]; (repeat (first | (with_reducible exact Below.refl _ _) | (with_reducible assumption) | (with_reducible refine b_drew ?_) | (with_reducible refine b_drewN ?_ _) | (with_reducible refine b_alloc ?_ _) | ((with_reducible refine b_set ?_ ?_ _); rotate_left; (focus (first | omega | (simp; done) | (simp; omega) | (simp at *; omega)))) | (with_reducible refine b_call ?_ (by with_reducible assumption))))
      obtain ⟨v1, v2, v3⟩ := (show Vr X w.heap.size 25 #[.int .i64 ix, .int .i64 v, .slice A m c] from by rw [hX]; exact Vr.new w _ _).facts
      clear hX
      go_quiet ((go_at_call 24; exact Calls.quiet_of_same (HH.out _ hn)))
      go_wp2
      go_ret
      exact ⟨rfl, below_drewN hB _⟩
theorem jn_even {k : Nat} (a b : Int) (h : k % 2 = 0) : jn k a b = prI a b := by unfold jn; rw [if_pos h]
theorem jn_odd {k : Nat} (a b : Int) (h : ¬ k % 2 = 0) : jn k a b = prI b a := by unfold jn; rw [if_neg h]
set_option maxHeartbeats 4000000 in
theorem rverify_yes (i q : Nat) (hn : n ≤ 65536) (rd : Rd w w.heap.size 1 A q (prf.map (Value.int .u64))) (hi : i < n) (hq : hgt n = q) :
    Calls Try.prog 17 #[.int .u64 root, .int .i64 n, .agg #[.int .i64 (i : Int), .int .i64 v, .slice A q c]] w fun e w' => e = .returned (.bool (phs prf i (leafI i v) (List.range q) == root)) ∧ Below w.heap.size w w' := by
  have hll : prf.length = q := by have := rd.1; simpa using this
  have RD := Lib.hid rd
  have HL := Lib.hid hll
  have hq16 : q ≤ 16 := by rw [← hq]; exact hgt_le hn
  have HQ := Lib.hid hq
  have HH := Lib.hid (rheight_q n)
  rw [hq] at HH
  have d1 : decide ((i : Int) < 0) = false := by simp
  have d2 : decide ((n : Int) ≤ (i : Int)) = false := by simp; omega
  have d2' : decide (n ≤ i) = false := by simp; omega
  have d3 : ((q : Int) != (q : Int)) = false := by simp
  clear rd hll hq
  go_enter Try.func17, Try.ntmps17
  go_wp2
  refine name_world ?_
  intro X hX
  have hB : Below w.heap.size w X := by rw [hX]; (repeat (first | (with_reducible exact Below.refl _ _) | (with_reducible assumption) | (with_reducible refine b_drew ?_) | (with_reducible refine b_drewN ?_ _) | (with_reducible refine b_alloc ?_ _) | ((with_reducible refine b_set ?_ ?_ _); rotate_left; (focus (first | omega | (simp; done) | (simp; omega) | (simp at *; omega)))) | (with_reducible refine b_call ?_ (by with_reducible assumption))))
  have VX : Vr X w.heap.size 25 #[.int .i64 i, .int .i64 v, .slice A q c] := by rw [hX]; exact Vr.new w _ _
  obtain ⟨v1, v2, v3⟩ := VX.facts
  have HVX := Lib.hid VX
  clear hX VX
  go_quiet ((go_at_call 24; exact Calls.quiet_of_same (HH.out _ hn)))
  go_wp2_with fail
  refine (rleaf_hash _ _ _).mono ?_
  rintro e w1 ⟨rfl, hb1⟩
  have hB1 : Below w.heap.size w w1 := (below_drewN hB _).trans (hb1.mono hB.size)
  have HV1 := Lib.hid ((HVX.out.drewN _).call hb1)
  obtain ⟨u1, u2, u3⟩ := HV1.out.facts
  have HB1 := Lib.hid hB1
  have R1 := Lib.hid (RD.out.below hB1 (Nat.le_refl _))
  clear hb1 hB v1 v2 v3 HVX hB1
  go_wp2
  go_loopw [7, 8, 9] (fun s7 s8 s9 wr => ∃ (j k : Nat) (h : Int), j ≤ q ∧ k ≤ 65536 ∧ Hid (i / 2 ^ j = k) ∧ Hid (phs prf i (leafI i v) (List.range j) = h) ∧ s7 = .int .u64 h ∧ s8 = .int .i64 k ∧ s9 = .int .i64 j ∧ Below w1.heap.size w1 wr) (fun _ _ s _ => q - (intOf s).toNat)
  case atStart => exact ⟨0, i, _, by omega, by omega, Lib.hid (by simp), Lib.hid rfl, rfl, rfl, rfl, Below.refl _ _⟩
  case round =>
    obtain ⟨j, k, h, hj, hk, HK, HP, rfl, rfl, rfl, hBr⟩ := hrel
    have VR := HV1.out.call hBr
    have z2 : wr.cell? ⟨w.heap.size, 2, none⟩ = some (.slice A q c) := VR.cell 2
    clear VR u1 u2 u3
    by_cases hlt : j < q
    · have e1 : decide ((j : Int) < (q : Int)) = true := by simp; omega
      have e2 : decide (j < q) = true := by simp; omega
      obtain ⟨b, o, hl, rfl, hb, hcell⟩ := (R1.out.below (hBr.mono (Nat.le_trans HB1.out.size (Nat.le_refl _))) (Nat.le_refl _)).openMap hlt
      have HN := Lib.hid (show phs prf i (leafI i v) (List.range (j + 1)) = jn k h prf[j] from by
        rw [List.range_succ, phs_snoc, HK.out, HP.out]
        simp [List.getD, hl])
      have HK2 := Lib.hid (show i / 2 ^ (j + 1) = k / 2 from by rw [← HK.out, half_shift])
      obtain ⟨p, hp⟩ : ∃ p, prf[j] = p := ⟨_, rfl⟩
      rw [hp] at hcell HN
      clear hp hl
      by_cases hev : k % 2 = 0
      · have q1 : ((k : Int) % 2 == 0) = true := by simp; omega
        rw [jn_even h p hev] at HN
        clear hev
        go_wp2_with fail
        refine (rpr_any h p _).mono ?_
        rintro e w2 ⟨rfl, hb2⟩
        go_wp2
        go_roundw
        case rel => exact ⟨j + 1, k / 2, _, by omega, by omega, HK2, HN, rfl, by go_num, by go_num, b_call hBr hb2⟩
        case measure => simp [intOf]; omega
      · have q1 : ((k : Int) % 2 == 0) = false := by simp; omega
        rw [jn_odd h p hev] at HN
        clear hev
        go_wp2_with fail
        refine (rpr_any p h _).mono ?_
        rintro e w2 ⟨rfl, hb2⟩
        go_wp2
        go_roundw
        case rel => exact ⟨j + 1, k / 2, _, by omega, by omega, HK2, HN, rfl, by go_num, by go_num, b_call hBr hb2⟩
        case measure => simp [intOf]; omega
    · obtain rfl : j = q := by omega
      have e1 : decide ((j : Int) < (j : Int)) = false := by simp
      have hb2 := HB1.out.trans (hBr.mono HB1.out.size)
      go_wp2
      go_ret
      exact ⟨by rw [HP.out]; rfl, hb2⟩
theorem rverify_any (hn : n ≤ 65536) (rd : Rd w w.heap.size 1 A m (prf.map (Value.int .u64))) :
    Calls Try.prog 17 #[.int .u64 root, .int .i64 n, .agg #[.int .i64 ix, .int .i64 v, .slice A m c]] w fun e w' => e = .returned (.bool (verB root n ix v prf)) ∧ Below w.heap.size w w' := by
  have hl : prf.length = m := by have := rd.1; simpa using this
  by_cases h : 0 ≤ ix ∧ ix < n ∧ prf.length = hgt n
  · obtain ⟨i, rfl⟩ := Int.eq_ofNat_of_zero_le h.1
    have hm : hgt n = m := by rw [← hl]; exact h.2.2.symm
    rw [verB_yes (by simpa using h)]
    simp only [Int.toNat_natCast]
    rw [hm]
    exact rverify_yes root n v A c prf w i m hn rd (by omega) hm
  · exact rverify_no root n ix v A m c prf w hn hl h
end
end Go.Proofs.Ytgelhcgaacnjcaa
