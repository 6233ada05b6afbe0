/-
  WHAT IS PROVED HERE: the walk of the law JournalPrefix: it returns true at every input and leaves old memory as it was. Conditions: the arguments' lengths are a machine's.
-/
import Derived.Test.YtmoajnekegbncaaJnJ
namespace Go.Proofs.Ytmoajnekegbncaa
set_option linter.unusedVariables false
open Go.ChangeShapes Go.WideShapes Go.ChangeAt Go.RowKit

theorem opens_le {L : List Int} {xs : List (List Int)} {e : Int} (h : Opens L xs e) : Bytes L → (framesI xs).length ≤ L.length := by
  induction h with
  | nil => intro _; simp [framesI]
  | torn _ => intro _; simp [framesI]
  | form _ => intro _; simp [framesI]
  | sum _ => intro _; simp [framesI]
  | one h _ ih =>
    intro hL
    obtain ⟨h1, h2, h3, h4⟩ := step_rec hL h
    have := ih (hL.drop _)
    rw [List.length_drop] at this
    rw [framesI_cons, List.length_append, frameI_len]
    omega
theorem Rows.take {w : World} {lo : Nat} {vs : List Value} {recs : List (List Int)} (h : Rows w lo vs recs) (k : Nat) : Rows w lo (vs.take k) (recs.take k) :=
  ⟨by rw [List.length_take, List.length_take, h.1], fun i v x hv hx => by
    rw [List.getElem?_take] at hv hx
    split at hv
    · rename_i hk
      rw [if_pos hk] at hx
      exact h.2 i v x hv hx
    · cases hv⟩
theorem recs_len {recs : List (List Int)} (h : recs.length ≤ 10) (hr : Recs 140 recs) : (framesI recs).length ≤ 1500 := by
  have h1 := framesI_le hr
  exact Nat.le_trans h1 (Nat.le_trans (Nat.mul_le_mul_right _ h) (by decide))
set_option maxRecDepth 100000 in
set_option maxHeartbeats 4000000 in
theorem jprefix_walk (A0 : Option Addr) (n0 c0 : Nat) (l0 : List Int) (A1 : Option Addr) (n1 c1 : Nat) (l1 : List Int) (cut : Int) (w : World) (rd0 : Rd w w.heap.size 1 A0 n0 (l0.map (Value.int .u8))) (hB0 : ∀ x ∈ l0, 0 ≤ x ∧ x ≤ 255) (nc0 : n0 ≤ c0) (cm0 : c0 ≤ maxLen)
    (rd1 : Rd w w.heap.size 1 A1 n1 (l1.map (Value.int .i64))) (hI : ∀ x ∈ l1, -9223372036854775808 ≤ x ∧ x ≤ 9223372036854775807) (hn1 : n1 ≤ 9223372036854775807) (hc : -9223372036854775808 ≤ cut ∧ cut ≤ 9223372036854775807) :
    Calls Try.prog 4 #[.slice A0 n0 c0, .slice A1 n1 c1, .int .i64 cut] w fun e w' => e = .returned (.bool true) ∧ Below w.heap.size w w' := by
  have hl0 : l0.length = n0 := by have := rd0.1; simpa using this
  have R0 := Lib.hid rd0
  have R1 := Lib.hid rd1
  have HI := Lib.hid hI
  have HN0 := Lib.hid (And.intro nc0 cm0)
  have HB0 := Lib.hid (show Bytes (l0.take 60) from fun x hx => hB0 x (List.mem_of_mem_take hx))
  obtain ⟨p, hp⟩ : ∃ p, min n0 60 = p := ⟨_, rfl⟩
  have hp60 : p ≤ 60 := by omega
  have HP := Lib.hid hp
  have HPL := Lib.hid (show (l0.take 60).length = p from by rw [List.length_take, hl0, ← hp, Nat.min_comm])
  obtain ⟨hc1, hc2⟩ := hc
  clear rd0 rd1 hI nc0 cm0 hB0 hl0 hp
  go_enter Try.func4, Try.ntmps4
  go_wp2_with fail
  refine (refrecords_any A1 n1 c1 l1 _ R1.out HI.out hn1).mono ?_
  rintro e w1 ⟨recs, hrl, hrs, A2, c2, vs, rfl, hc3, hm1, own1, rows1, hb1⟩
  obtain ⟨m, hm⟩ : ∃ m, recs.length = m := ⟨_, rfl⟩
  have HFL := Lib.hid (recs_len hrl hrs)
  rw [hm] at own1 hc3 hrl ⊢
  have HRS := Lib.hid hrs
  have RV1 := Lib.hid (rd_own own1)
  have RW1 := Lib.hid rows1
  have B1 := Lib.hid hb1
  clear hm hrs own1 rows1 hb1
  go_wp2_with fail
  refine (refframes_any A2 m c2 vs _ recs _ RV1.out RW1.out (HRS.out.mono (by omega)) (by omega)).mono ?_
  obtain ⟨N, hN⟩ : ∃ N, (framesI recs).length = N := ⟨_, rfl⟩
  have HN := Lib.hid hN
  have hN1 : N ≤ 1500 := by rw [← hN]; exact HFL.out
  rw [hN]
  clear hN
  rintro e w2 ⟨A3, c3, rfl, h1, h2, own3, hb2⟩
  have O2 := Lib.hid own3
  have z2 := hb2.size
  have B2 := Lib.hid (b_call B1.out hb2)
  have R0' := Lib.hid (R0.out.below B2.out (Nat.le_refl _))
  clear own3 hb2 RV1 RW1
  go_wp2_with fail
  refine (few_any A0 n0 c0 l0 60 60 _ rfl (R0'.out.more B2.out.size) HN0.out.1 HN0.out.2 (by omega)).mono ?_
  rw [HP.out]
  rintro e w3 ⟨A4, c4, rfl, k1, k2, own4, hb3⟩
  have O3 := Lib.hid (own_below O2.out hb3)
  have B3 := Lib.hid (b_call B2.out hb3)
  have R4 := Lib.hid (rd_own own4)
  obtain ⟨L, hL⟩ : ∃ L, framesI recs ++ l0.take 60 = L := ⟨_, rfl⟩
  have HLL := Lib.hid (show L.length = N + p from by rw [← hL, List.length_append, HN.out, HPL.out])
  have HLB := Lib.hid (show Bytes L from by
    rw [← hL]
    intro x hx
    rcases List.mem_append.1 hx with h | h
    · exact framesI_bytes (HRS.out.mono (by omega)) x h
    · exact HB0.out x h)
  have HL := Lib.hid hL
  have z3 := hb3.size
  clear own4 hb3 O2 hL R0 R0' HB0 HRS
  have z1 := B1.out.size
  go_upto_region 2 with (at_builtin; refine wpList_app _ rfl (.tmp 17) (.tmp 19) slBytes rfl rfl O3.out rfl R4.out (ints_one _ _) (N + p) rfl (by unfold maxLen; omega) (by omega) (by omega) ?_; intro A5 c5 w4 g1 g2 g3 g4 g5)
  have B4 := Lib.hid (below_app B3.out O3.out g4 z1 (by omega))
  have R5 := Lib.hid (show Rd w4 w4.heap.size 1 A5 (N + p) (L.map (Value.int .u8)) from by rw [← HL.out, List.map_append]; exact rd_own g3)
  obtain ⟨M, hM⟩ : ∃ M, N + p = M := ⟨_, rfl⟩
  rw [hM] at R5 HLL g1 ⊢
  have hM1 : M ≤ 1560 := by omega
  unfold maxLen at g2
  clear g3 g4 g5 z1 z2 z3 O3 B3 B2 B1 R4 HL hM HN HP HPL HFL
  have ha := around_bd cut ((M : Int) + 1) (by omega)
  go_wp2_with fail
  refine (around_any cut ((M : Int) + 1) _ hc1 hc2 (by omega) (by omega)).mono ?_
  rintro e w_ ⟨rfl, rfl⟩
  obtain ⟨K1, hK1⟩ : ∃ k : Nat, around cut ((M : Int) + 1) = (k : Int) := ⟨(around cut ((M : Int) + 1)).toNat, by omega⟩
  rw [hK1] at ha ⊢
  have hK2 : K1 ≤ M := by omega
  clear ha hK1
  go_wp2_with fail
  refine (open_any A5 M c5 L HLB.out _ R5.out g1 (by unfold maxLen; omega) (by omega)).mono ?_
  rintro e w5 ⟨xs, er, hox, hb5, hres⟩
  have HOX := Lib.hid hox
  have B5 := Lib.hid (b_call B4.out hb5)
  have R6 := Lib.hid (rd_step R5.out hb5)
  have HR := Lib.hid hres
  clear hox hb5 hres
  have hsl := fun (W : World) => run_slice_to slBytes A5 M c5 .i64 (K1 : Int) (by omega) (by omega) W
  simp only [Int.toNat_natCast] at hsl
  have R7 := Lib.hid (R6.out.take hK2)
  rw [Nat.mul_one, ← List.map_take] at R7
  rcases HR.out with ⟨rfl, g5, F5, rfl, hlg5, hF5⟩ | ⟨her, rfl⟩
  · have LG5 := Lib.hid hlg5
    clear hlg5 hF5 HR
    go_wp2_with fail
    clear hsl
    refine (open_any A5 K1 c5 (L.take K1) (HLB.out.take _) _ R7.out (by omega) (by unfold maxLen; omega) (by omega)).mono ?_
    rintro e w6 ⟨ys, er2, hoy, hb6, hres2⟩
    have HOY := Lib.hid hoy
    have B6 := Lib.hid (b_call B5.out hb6)
    have LG6 := Lib.hid (LG5.out.below hb6)
    have HR2 := Lib.hid hres2
    clear hoy hb6 hres2
    rcases HR2.out with ⟨rfl, g6, F6, rfl, hlg6, hF6⟩ | ⟨her2, rfl⟩
    · have LY6 := Lib.hid hlg6
      have HPX := Lib.hid (opens_prefix HOY.out rfl HLB.out rfl HOX.out rfl)
      have HX4 := Lib.hid (opens_recs HOX.out HLB.out)
      have HXL := Lib.hid (opens_le HOX.out HLB.out)
      have HYL := Lib.hid (opens_le HOY.out (HLB.out.take K1))
      clear hlg6 hF6 HR2
      obtain ⟨mx, hmx⟩ : ∃ m, xs.length = m := ⟨_, rfl⟩
      obtain ⟨my, hmy⟩ : ∃ m, ys.length = m := ⟨_, rfl⟩
      have hle : my ≤ mx := by rw [← hmx, ← hmy]; exact HPX.out.length_le
      have hmx1 : mx ≤ 1560 := by
        rw [← hmx]
        have := framesI_ge xs
        have := HXL.out
        have := HLL.out
        omega
      have HMX := Lib.hid hmx
      have HMY := Lib.hid hmy
      have HEQ := Lib.hid (show xs.take my = ys from by rw [← hmy]; exact (List.prefix_iff_eq_take.1 HPX.out).symm)
      clear hmx hmy HPX HOX HOY
      go_wp2_with fail
      refine (records_any F5 g5 xs mx _ LG6.out HMX.out (by have := HXL.out; have := HLL.out; omega)).mono ?_
      rintro e w7 ⟨A7, c7, vs7, rfl, k3, k4, own7, rows7, hb7⟩
      have O7 := Lib.hid own7
      have RW7 := Lib.hid rows7
      have B7 := Lib.hid (b_call B6.out hb7)
      have LY7 := Lib.hid (LY6.out.below hb7)
      clear own7 rows7 hb7 LG6 LY6 LG5
      go_wp2_with fail
      refine (records_any F6 g6 ys my _ LY7.out HMY.out (by have := HYL.out; rw [List.length_take] at this; omega)).mono ?_
      rintro e w8 ⟨A8, c8, vs8, rfl, k5, k6, own8, rows8, hb8⟩
      have RV7 := Lib.hid (rd_own (own_below O7.out hb8))
      have RW7' := Lib.hid (RW7.out.below hb8)
      have RV8 := Lib.hid (rd_own own8)
      have RW8 := Lib.hid rows8
      have B8 := Lib.hid (b_call B7.out hb8)
      clear own8 rows8 hb8 LY7 O7 RW7 B7 B6 B5 B4 R7 R6 R5
      have RT := Lib.hid (RV7.out.take hle)
      rw [Nat.mul_one] at RT
      have RWT := Lib.hid (show Rows w8 _ (vs7.take my) ys from by have := RW7'.out.take my; rw [HEQ.out] at this; exact this)
      have HY4 := Lib.hid (show Recs 4000 ys from by rw [← HEQ.out]; exact HX4.out.take _)
      have hsl := fun (W : World) => run_slice_to slRows A7 mx c7 .i64 (my : Int) (by omega) (by omega) W
      simp only [Int.toNat_natCast] at hsl
      have hmin : (if (mx : Int) < (my : Int) then (mx : Int) else (my : Int)) = (my : Int) := if_neg (by omega)
      have hdec : decide ((my : Int) ≤ (mx : Int)) = true := by simp; omega
      go_wp2_with fail
      refine (same_any A7 A8 my c7 my c8 _ _ (vs7.take my) vs8 ys ys true (by simp) _ RT.out RWT.out RV8.out RW8.out 4000 HY4.out HY4.out (by omega) (by omega)).mono ?_
      rintro e w9 ⟨rfl, hb9⟩
      have B9 := Lib.hid (b_call B8.out hb9)
      clear hb9
      go_wp2_with fail
      refine (lives_any _).mono ?_
      rintro e w10 ⟨rfl, hb10⟩
      go_wp2
      go_ret
      exact ⟨rfl, b_call B9.out hb10⟩
    · have q2 : (er2 != 0) = true := by rw [bne_iff_ne]; exact her2
      clear HR2
      go_wp2_with fail
      refine (lives_any _).mono ?_
      rintro e w10 ⟨rfl, hb10⟩
      go_wp2
      go_ret
      exact ⟨rfl, b_call B6.out hb10⟩
  · have q1 : (er != 0) = true := by rw [bne_iff_ne]; exact her
    clear HR
    go_wp2_with fail
    clear hsl
    refine (open_any A5 K1 c5 (L.take K1) (HLB.out.take _) _ R7.out (by omega) (by unfold maxLen; omega) (by omega)).mono ?_
    rintro e w6 ⟨ys, er2, hoy, hb6, hres2⟩
    have B6 := Lib.hid (b_call B5.out hb6)
    have HR2 := Lib.hid hres2
    clear hoy hb6 hres2
    rcases HR2.out with ⟨rfl, g6, F6, rfl, hlg6, hF6⟩ | ⟨her2, rfl⟩
    · clear hlg6 hF6 HR2
      go_wp2_with fail
      refine (lives_any _).mono ?_
      rintro e w10 ⟨rfl, hb10⟩
      go_wp2
      go_ret
      exact ⟨rfl, b_call B6.out hb10⟩
    · have q2 : (er2 != 0) = true := by rw [bne_iff_ne]; exact her2
      clear HR2
      go_wp2_with fail
      refine (lives_any _).mono ?_
      rintro e w10 ⟨rfl, hb10⟩
      go_wp2
      go_ret
      exact ⟨rfl, b_call B6.out hb10⟩
end Go.Proofs.Ytmoajnekegbncaa
