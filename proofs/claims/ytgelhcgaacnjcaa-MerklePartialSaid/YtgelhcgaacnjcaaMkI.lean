/-
  WHAT IS PROVED HERE: contracts of the reference's Size, Height, leaf, Node and Root. No condition but that the cells lie in memory, and bounds on their number.
-/
import Derived.Test.YtgelhcgaacnjcaaMkH
namespace Go.Proofs.Ytgelhcgaacnjcaa
set_option linter.unusedVariables false
open Go.ChangeShapes Go.WideShapes Go.ChangeAt Go.RowKit

set_option maxHeartbeats 1000000 in
theorem size_any (n S0 : Nat) (w : World) (hn : n ≤ 65536) (hS0 : 2 ^ hgt n = S0) :
    Calls Try.prog 33 #[.int .i64 n] w fun e w' => e = .returned (.int .i64 S0) ∧ w = w' := by
  have HS0 := Lib.hid hS0
  clear hS0
  obtain ⟨q, hq⟩ : ∃ q, hgt n = q := ⟨_, rfl⟩
  have hq16 : q ≤ 16 := by rw [← hq]; exact hgt_le hn
  have HQ := Lib.hid hq
  have HG := Lib.hid (hgt_ge n)
  clear hq
  go_enter Try.func33, Try.ntmps33
  go_wp2
  go_loop [3] (fun s => ∃ (j S : Nat), Hid (2 ^ j = S) ∧ j ≤ q ∧ 1 ≤ S ∧ S ≤ 65536 ∧ s = .int .i64 S) (fun s => 65537 - (intOf s).toNat)
  case atStart => exact ⟨0, 1, rfl, by omega, by omega, by omega, rfl⟩
  case round =>
    obtain ⟨j, S, HS, hj, h1, h2, rfl⟩ := hrel
    by_cases hlt : S < n
    · have hj1 : j + 1 ≤ q := by
        rcases Nat.lt_or_ge j q with h | h
        · omega
        · have h3 := HG.out
          rw [HQ.out, show q = j from by omega, HS.out] at h3
          omega
      have h3 : 2 * S ≤ 65536 := by
        have := Nat.pow_le_pow_right (n := 2) (by omega) (show j + 1 ≤ 16 by omega)
        rw [Nat.pow_succ, HS.out] at this
        omega
      have d1 : decide ((S : Int) < (n : Int)) = true := by simp; omega
      go_wp2
      go_round
      case rel => exact ⟨j + 1, 2 * S, by show 2 ^ (j + 1) = 2 * S; rw [Nat.pow_succ, HS.out]; omega, by omega, by omega, h3, by go_num⟩
      case measure => simp [intOf]; omega
    · have d1 : decide ((S : Int) < (n : Int)) = false := by simp; omega
      have E := Lib.hid (show S0 = S from by
        rw [← HS0.out]
        have h3 := hgt_min (n := n) (j := j) (by rw [HS.out]; omega)
        rw [HQ.out] at h3 ⊢
        rw [show q = j from by omega, HS.out])
      go_wp2
      go_ret
      exact ⟨ret_int (by rw [E.out]), rfl⟩
set_option maxHeartbeats 1000000 in
theorem rheight_any (n : Nat) (w : World) (hn : n ≤ 65536) :
    Calls Try.prog 24 #[.int .i64 n] w fun e w' => e = .returned (.int .i64 (hgt n)) ∧ w = w' := by
  obtain ⟨q, hq⟩ : ∃ q, hgt n = q := ⟨_, rfl⟩
  have hq16 : q ≤ 16 := by rw [← hq]; exact hgt_le hn
  have HQ := Lib.hid hq
  obtain ⟨M, hM⟩ : ∃ M, 2 ^ q = M := ⟨_, rfl⟩
  have HM := Lib.hid hM
  have hM1 : M ≤ 65536 := by
    rw [← hM]
    exact Nat.pow_le_pow_right (n := 2) (by omega) hq16
  clear hq hM
  go_enter Try.func24, Try.ntmps24
  go_wp2_with fail
  refine (size_any n M _ hn (by rw [HQ.out, HM.out])).mono ?_
  rintro e w_ ⟨rfl, rfl⟩
  go_wp2
  go_loop [3, 4] (fun s3 s4 => ∃ (j S : Nat), Hid (2 ^ j = S) ∧ j ≤ q ∧ S ≤ 65536 ∧ s4 = .int .i64 S ∧ s3 = .int .i64 ((q - j : Nat) : Int)) (fun _ s => (intOf s).toNat)
  case atStart => exact ⟨q, M, HM, by omega, by omega, rfl, by go_num⟩
  case round =>
    obtain ⟨j, S, HS, hj, h2, rfl, rfl⟩ := hrel
    obtain ⟨d, hd⟩ : ∃ d, q - j = d := ⟨_, rfl⟩
    have HD := Lib.hid hd
    have hd1 : d ≤ 16 := by omega
    rw [hd]
    clear hd
    by_cases hlt : 1 < S
    · have d1 : decide (1 < (S : Int)) = true := by simp; omega
      obtain ⟨j', rfl⟩ : ∃ j', j = j' + 1 := by
        rcases j with _ | j
        · have := HS.out
          simp at this
          omega
        · exact ⟨j, rfl⟩
      have h3 := Lib.hid (show 2 ^ j' = S / 2 from by have := HS.out; rw [Nat.pow_succ] at this; omega)
      have h4 := HD.out
      go_wp2
      go_round
      case rel => exact ⟨j', S / 2, h3, by omega, by omega, by go_num, by rw [show q - j' = d + 1 from by omega]; go_num⟩
      case measure => simp [intOf]; omega
    · have d1 : decide (1 < (S : Int)) = false := by simp; omega
      have E := Lib.hid (show hgt n = d from by
        have : j = 0 := by
          rcases j with _ | j
          · rfl
          · have h3 := HS.out
            have := Nat.pow_pos (n := j) (show 0 < 2 by omega)
            rw [Nat.pow_succ] at h3
            omega
        rw [HQ.out, ← HD.out, this]
        omega)
      go_wp2
      go_ret
      exact ⟨ret_int (by rw [E.out]), rfl⟩
theorem rempty_any (w : World) : Calls Try.prog 39 #[.string emptyTxt, .slice none 0 0] w fun e w' => e = .returned (.int .u64 emptyI) ∧ Below w.heap.size w w' := by
  have h := refsum_any emptyTxt (by decide) none 0 0 [] w (Rd.nil _) (by omega)
  unfold emptyI
  exact h
theorem rleaf_hash (i v : Int) (w : World) : Calls Try.prog 39 #[.string leafTxt, .slice (some ⟨w.heap.size, 0, none⟩) 2 2] (w.alloc (.cells #[.int .i64 i, .int .i64 v] 3)) fun e w' => e = .returned (.int .u64 (leafI i v)) ∧ Below w.heap.size w w' := by
  refine (refsum_any leafTxt (by decide) _ 2 2 [i, v] _ (rd_lit _ _ _ rfl rfl) (by omega)).mono ?_
  rintro e w1 ⟨rfl, hb1⟩
  exact ⟨by unfold leafI; rfl, by (repeat (first | (with_reducible exact Below.refl _ _) | (with_reducible assumption) | (with_reducible refine b_drew ?_) | (with_reducible refine b_drewN ?_ _) | (with_reducible refine b_alloc ?_ _) | ((with_reducible refine b_set ?_ ?_ _); rotate_left; (focus (first | omega | (simp; done) | (simp; omega) | (simp at *; omega)))) | (with_reducible refine b_call ?_ (by with_reducible assumption))))⟩
set_option maxHeartbeats 1000000 in
theorem rleaf_any (A : Option Addr) (n c : Nat) (cs : List Int) (i : Nat) (w : World) (rd : Rd w w.heap.size 1 A n (cs.map (Value.int .i64))) (hn : n ≤ 1000) (hi : i ≤ 1000000) :
    Calls Try.prog 47 #[.slice A n c, .int .i64 i] w fun e w' => e = .returned (.int .u64 (lfV cs i)) ∧ Below w.heap.size w w' := by
  have hll : cs.length = n := by have := rd.1; simpa using this
  by_cases hlt : i < n
  · obtain ⟨b, o, hl, rfl, hb, hcell⟩ := rd.openMap hlt
    have E := Lib.hid (show lfV cs i = leafI i cs[i] from by unfold lfV; rw [dif_pos hl])
    have d1 : decide ((n : Int) ≤ (i : Int)) = false := by simp; omega
    clear rd hll
    go_enter Try.func47, Try.ntmps47
    go_wp2_with fail
    refine (rleaf_hash _ _ _).mono ?_
    rintro e w1 ⟨rfl, hb1⟩
    go_wp2
    go_ret
    exact ⟨by rw [E.out]; rfl, hb1⟩
  · have E := Lib.hid (lfV_out (cs := cs) (i := i) (by omega))
    have d1 : decide ((n : Int) ≤ (i : Int)) = true := by simp; omega
    clear rd hll
    go_enter Try.func47, Try.ntmps47
    go_wp2_with fail
    refine (rempty_any _).mono ?_
    rintro e w1 ⟨rfl, hb1⟩
    go_wp2
    go_ret
    exact ⟨by rw [E.out]; rfl, hb1⟩
theorem rpr_any (a b : Int) (w : World) :
    Calls Try.prog 40 #[.int .u64 a, .int .u64 b] w fun e w' => e = .returned (.int .u64 (prI a b)) ∧ Below w.heap.size w w' := by
  rw [prI_def]
  exact refpair_any a b w
set_option maxHeartbeats 1000000 in
theorem rnode_any (A : Option Addr) (n c : Nat) (cs : List Int) (hn : n ≤ 1000) : ∀ (l k F E : Nat) (w : World), Rd w w.heap.size 1 A n (cs.map (Value.int .i64)) → F = k * 2 ^ l → E = F + 2 ^ l → E ≤ 1000000 →
    Calls Try.prog 34 #[.slice A n c, .int .i64 F, .int .i64 E] w fun e w' => e = .returned (.int .u64 (nV cs l k)) ∧ Below w.heap.size w w'
  | 0, k, F, E, w, rd, hF, hE, hb => by
    have hk : F = k := by simpa using hF
    subst hk
    have RD := Lib.hid rd
    have hE : E = F + 1 := by simpa using hE
    subst hE
    have d1 : ((F : Int) + 1 - F == 1) = true := by simp; omega
    clear rd hF
    go_enter Try.func34, Try.ntmps34
    go_wp2_with fail
    refine (rleaf_any A n c cs F _ RD.out hn (by omega)).mono ?_
    rintro e w1 ⟨rfl, hb1⟩
    go_wp2
    go_ret
    exact ⟨rfl, hb1⟩
  | l + 1, k, F, E, w, rd, hF, hE, hb => by
    have RD := Lib.hid rd
    have hp : 2 ^ (l + 1) = 2 * 2 ^ l := by rw [Nat.pow_succ, Nat.mul_comm]
    obtain ⟨S, hS⟩ : ∃ S, 2 ^ l = S := ⟨_, rfl⟩
    have hS1 : 1 ≤ S := by rw [← hS]; exact Nat.pow_pos (by omega)
    rw [hp, hS] at hF hE
    have h1 : F = (2 * k) * S := by rw [hF, Nat.mul_comm 2 k, Nat.mul_assoc]
    have h2 : F + S = (2 * k + 1) * S := by rw [Nat.add_mul, ← h1]; omega
    have H1 := Lib.hid h1
    have H2 := Lib.hid h2
    have HS := Lib.hid hS
    subst hE
    have d2 : ((F : Int) + ((F : Int) + 2 * (S : Int))) / 2 = F + S := by omega
    have d3 : ((F : Int) + 2 * (S : Int) - F == 1) = false := by rw [beq_eq_false_iff_ne]; omega
    clear rd hF h1 h2 hS hp
    go_enter Try.func34, Try.ntmps34
    go_wp2_with fail
    refine (rnode_any A n c cs hn l (2 * k) F (F + S) _ RD.out (by rw [HS.out]; exact H1.out) (by rw [HS.out]) (by omega)).mono ?_
    rintro e w1 ⟨rfl, hb1⟩
    go_wp2_with fail
    refine (rnode_any A n c cs hn l (2 * k + 1) (F + S) (F + 2 * S) _ (rd_step RD.out hb1) (by rw [HS.out]; exact H2.out) (by rw [HS.out]; omega) hb).mono ?_
    rintro e w2 ⟨rfl, hb2⟩
    go_wp2_with fail
    refine (rpr_any _ _ _).mono ?_
    rintro e w3 ⟨rfl, hb3⟩
    go_wp2
    go_ret
    exact ⟨rfl, by (repeat (first | (with_reducible exact Below.refl _ _) | (with_reducible assumption) | (with_reducible refine b_drew ?_) | (with_reducible refine b_drewN ?_ _) | (with_reducible refine b_alloc ?_ _) | ((with_reducible refine b_set ?_ ?_ _); rotate_left; (focus (first | omega | (simp; done) | (simp; omega) | (simp at *; omega)))) | (with_reducible refine b_call ?_ (by with_reducible assumption))))⟩
set_option maxHeartbeats 1000000 in
theorem rroot_any (A : Option Addr) (n c : Nat) (cs : List Int) (w : World) (rd : Rd w w.heap.size 1 A n (cs.map (Value.int .i64))) (hn : n ≤ 1000) :
    Calls Try.prog 15 #[.slice A n c] w fun e w' => e = .returned (.int .u64 (nV cs (hgt cs.length) 0)) ∧ Below w.heap.size w w' := by
  have hll : cs.length = n := by have := rd.1; simpa using this
  have h10 : hgt n ≤ 10 := hgt_min (by omega)
  rw [hll]
  obtain ⟨q, hq⟩ : ∃ q, hgt n = q := ⟨_, rfl⟩
  rw [hq] at h10 ⊢
  have hp := pow10 h10
  obtain ⟨S, hS⟩ : ∃ S, 2 ^ q = S := ⟨_, rfl⟩
  rw [hS] at hp
  have HQ := Lib.hid hq
  have HS := Lib.hid hS
  have RD := Lib.hid rd
  clear rd hll hq hS
  go_enter Try.func15, Try.ntmps15
  go_wp2_with fail
  refine (size_any n S _ (by omega) (by rw [HQ.out, HS.out])).mono ?_
  rintro e w_ ⟨rfl, rfl⟩
  go_wp2_with fail
  refine (rnode_any A n c cs hn q 0 0 S _ RD.out (by simp) (by rw [HS.out, Nat.zero_add]) (by omega)).mono ?_
  rintro e w1 ⟨rfl, hb1⟩
  go_wp2
  go_ret
  exact ⟨rfl, hb1⟩
end Go.Proofs.Ytgelhcgaacnjcaa
