/-
  WHAT IS PROVED HERE: the contract of the reference's Reveal. No condition but that the round lies in memory as stated.
-/
import Derived.Test.YtojmkfhinkmhaaaCrU
namespace Go.Proofs.Ytojmkfhinkmhaaa
set_option linter.unusedVariables false
open Go.ChangeShapes Go.WideShapes Go.ChangeAt Go.RowKit

theorem rvE_bad {r : RdV} {pl : Int} (x : Inp) (n : Int) (h : pl < 0 ∨ (r.k : Int) ≤ pl) : rvE r pl x n = 17 := by unfold rvE; rw [badP_yes h]; rfl
theorem rvS_bad {r : RdV} {pl : Int} {x : Inp} {n : Int} (h : ¬ rvE r pl x n = 0) : rvS r pl x n = r := if_neg h
theorem rvE_nat {r : RdV} {q : Nat} (x : Inp) (n : Int) (h : q < r.k) : rvE r q x n = if !r.o then 5 else if !(r.st q).c then 21 else if (r.st q).r then 4 else if vcode x = 0 then (if cmtI q r.t x n != (r.st q).h then 21 else 0) else vcode x := by unfold rvE; rw [badP_lt h, toNat_q]; rfl
theorem rvE_at {k : Nat} {t : Int} {f : Nat → StV} {q : Nat} {s : StV} (x : Inp) (n : Int) (h : q < k) (hs : f q = s) : rvE ⟨k, t, true, f⟩ q x n = if !s.c then 21 else if s.r then 4 else if vcode x = 0 then (if cmtI q t x n != s.h then 21 else 0) else vcode x := by
  subst hs
  rw [rvE_nat (r := ⟨k, t, true, f⟩) x n h]
  rfl
section
variable (A : Option Addr) (k c : Nat) (t : Int) (o : Bool) (f : Nat → StV) (w : World)
set_option maxRecDepth 100000 in
set_option maxHeartbeats 4000000 in
theorem refreveal_any (pl a b d n : Int) (rd : Rd w w.heap.size 6 A k (onesC f k)) (hk : k ≤ 8) (hn : 0 ≤ n ∧ n ≤ 18446744073709551615) :
    Calls Try.prog 30 #[.agg #[.int .i64 t, .slice A k c, .bool o], .int .i64 pl, .agg #[.int .i64 a, .int .i64 b, .int .i64 d], .int .u64 n] w (RetRefE A w (rvS ⟨k, t, o, f⟩ pl (a, b, d) n) (rvE ⟨k, t, o, f⟩ pl (a, b, d) n)) := by
  have RD := Lib.hid rd
  have HN := Lib.hid hn
  clear rd hn
  by_cases c1 : pl < 0
  · have hE := rvE_bad (r := ⟨k, t, o, f⟩) (a, b, d) n (.inl c1)
    rw [hE, rvS_bad (by rw [hE]; decide)]
    have d1 : decide (pl < 0) = true := decide_eq_true c1
    clear c1 hE
    go_enter Try.func30, Try.ntmps30
    go_wp2
    exact bodyPost_ret (v := .tuple #[.agg #[.int .i64 t, .slice A k c, .bool o], .int .i64 17]) (by simp [results, Try.results30, go_sem]) rfl ⟨_, c, rfl, rd_step RD.out (by (repeat (first | (with_reducible exact Below.refl _ _) | (with_reducible assumption) | (with_reducible refine b_drew ?_) | (with_reducible refine b_drewN ?_ _) | (with_reducible refine b_alloc ?_ _) | ((with_reducible refine b_set ?_ ?_ _); rotate_left; (focus (first | omega | (simp; done) | (simp; omega) | (simp at *; omega)))) | (with_reducible refine b_call ?_ (by with_reducible assumption))))), by (repeat (first | (with_reducible exact Below.refl _ _) | (with_reducible assumption) | (with_reducible refine b_drew ?_) | (with_reducible refine b_drewN ?_ _) | (with_reducible refine b_alloc ?_ _) | ((with_reducible refine b_set ?_ ?_ _); rotate_left; (focus (first | omega | (simp; done) | (simp; omega) | (simp at *; omega)))) | (with_reducible refine b_call ?_ (by with_reducible assumption)))), .inl rfl⟩
  by_cases c2 : (k : Int) ≤ pl
  · have hE := rvE_bad (r := ⟨k, t, o, f⟩) (a, b, d) n (.inr c2)
    rw [hE, rvS_bad (by rw [hE]; decide)]
    have d1 : decide (pl < 0) = false := decide_eq_false c1
    have d2 : decide ((k : Int) ≤ pl) = true := decide_eq_true c2
    clear c1 c2 hE
    go_enter Try.func30, Try.ntmps30
    go_wp2
    exact bodyPost_ret (v := .tuple #[.agg #[.int .i64 t, .slice A k c, .bool o], .int .i64 17]) (by simp [results, Try.results30, go_sem]) rfl ⟨_, c, rfl, rd_step RD.out (by (repeat (first | (with_reducible exact Below.refl _ _) | (with_reducible assumption) | (with_reducible refine b_drew ?_) | (with_reducible refine b_drewN ?_ _) | (with_reducible refine b_alloc ?_ _) | ((with_reducible refine b_set ?_ ?_ _); rotate_left; (focus (first | omega | (simp; done) | (simp; omega) | (simp at *; omega)))) | (with_reducible refine b_call ?_ (by with_reducible assumption))))), by (repeat (first | (with_reducible exact Below.refl _ _) | (with_reducible assumption) | (with_reducible refine b_drew ?_) | (with_reducible refine b_drewN ?_ _) | (with_reducible refine b_alloc ?_ _) | ((with_reducible refine b_set ?_ ?_ _); rotate_left; (focus (first | omega | (simp; done) | (simp; omega) | (simp at *; omega)))) | (with_reducible refine b_call ?_ (by with_reducible assumption)))), .inl rfl⟩
  have d1 : decide (pl < 0) = false := decide_eq_false c1
  have d2 : decide ((k : Int) ≤ pl) = false := decide_eq_false c2
  obtain ⟨q, rfl, hq⟩ : ∃ q : Nat, pl = q ∧ q < k := ⟨pl.toNat, by omega, by omega⟩
  clear c1 c2
  have hE := rvE_nat (r := ⟨k, t, o, f⟩) (a, b, d) n hq
  simp only at hE
  rcases o with _ | _
  · have hE0 : rvE ⟨k, t, false, f⟩ q (a, b, d) n = 5 := hE
    rw [hE0, rvS_bad (by rw [hE0]; decide)]
    clear hE hE0
    go_enter Try.func30, Try.ntmps30
    go_wp2
    exact bodyPost_ret (v := .tuple #[.agg #[.int .i64 t, .slice A k c, .bool false], .int .i64 5]) (by simp [results, Try.results30, go_sem]) rfl ⟨_, c, rfl, rd_step RD.out (by (repeat (first | (with_reducible exact Below.refl _ _) | (with_reducible assumption) | (with_reducible refine b_drew ?_) | (with_reducible refine b_drewN ?_ _) | (with_reducible refine b_alloc ?_ _) | ((with_reducible refine b_set ?_ ?_ _); rotate_left; (focus (first | omega | (simp; done) | (simp; omega) | (simp at *; omega)))) | (with_reducible refine b_call ?_ (by with_reducible assumption))))), by (repeat (first | (with_reducible exact Below.refl _ _) | (with_reducible assumption) | (with_reducible refine b_drew ?_) | (with_reducible refine b_drewN ?_ _) | (with_reducible refine b_alloc ?_ _) | ((with_reducible refine b_set ?_ ?_ _); rotate_left; (focus (first | omega | (simp; done) | (simp; omega) | (simp at *; omega)))) | (with_reducible refine b_call ?_ (by with_reducible assumption)))), .inl rfl⟩
  clear hE
  obtain ⟨b0, o0, rfl, hb0, hcell⟩ := refr_len RD.out hq
  have z0 := hcell 0 _ (by omega) rfl
  have z1 := hcell 1 _ (by omega) rfl
  have z2 := hcell 2 _ (by omega) rfl
  have z3 := hcell 3 _ (by omega) rfl
  have z4 := hcell 4 _ (by omega) rfl
  have z5 := hcell 5 _ (by omega) rfl
  simp only [← Nat.add_assoc, Nat.add_zero] at z0 z1 z2 z3 z4 z5
  have hb1 : b0 < w.heap.size + 1 := by omega
  have hb2' : b0 < w.heap.size + 1 + 1 := by omega
  have hb3' : b0 < w.heap.size + 1 + 1 + 1 := by omega
  have k1 : (0 : Int) ≤ (q : Int) := by omega
  have k2 : (q : Int) < (k : Int) := by omega
  clear hcell
  have HFQ := Lib.hid (rfl : f q = f q)
  obtain ⟨⟨sc, sr, sh, ⟨sa, sb, sd⟩⟩, hfq⟩ : ∃ s, f q = s := ⟨_, rfl⟩
  rw [hfq] at z0 z1 z2 z3 z4 z5
  have hE := rvE_at (t := t) (a, b, d) n hq hfq
  simp only at z0 z1 z2 z3 z4 z5 hE
  clear HFQ
  rcases sc with _ | _
  · have hE0 : rvE ⟨k, t, true, f⟩ q (a, b, d) n = 21 := hE
    rw [hE0, rvS_bad (by rw [hE0]; decide)]
    clear hE hE0 hfq
    go_enter Try.func30, Try.ntmps30
    go_wp2
    exact bodyPost_ret (v := .tuple #[.agg #[.int .i64 t, .slice (some ⟨b0, o0, none⟩) k c, .bool true], .int .i64 21]) (by simp [results, Try.results30, go_sem]) rfl ⟨_, c, rfl, rd_step RD.out (by (repeat (first | (with_reducible exact Below.refl _ _) | (with_reducible assumption) | (with_reducible refine b_drew ?_) | (with_reducible refine b_drewN ?_ _) | (with_reducible refine b_alloc ?_ _) | ((with_reducible refine b_set ?_ ?_ _); rotate_left; (focus (first | omega | (simp; done) | (simp; omega) | (simp at *; omega)))) | (with_reducible refine b_call ?_ (by with_reducible assumption))))), by (repeat (first | (with_reducible exact Below.refl _ _) | (with_reducible assumption) | (with_reducible refine b_drew ?_) | (with_reducible refine b_drewN ?_ _) | (with_reducible refine b_alloc ?_ _) | ((with_reducible refine b_set ?_ ?_ _); rotate_left; (focus (first | omega | (simp; done) | (simp; omega) | (simp at *; omega)))) | (with_reducible refine b_call ?_ (by with_reducible assumption)))), .inl rfl⟩
  rcases sr with _ | _
  case true =>
    have hE0 : rvE ⟨k, t, true, f⟩ q (a, b, d) n = 4 := hE
    rw [hE0, rvS_bad (by rw [hE0]; decide)]
    clear hE hE0 hfq
    go_enter Try.func30, Try.ntmps30
    go_wp2
    exact bodyPost_ret (v := .tuple #[.agg #[.int .i64 t, .slice (some ⟨b0, o0, none⟩) k c, .bool true], .int .i64 4]) (by simp [results, Try.results30, go_sem]) rfl ⟨_, c, rfl, rd_step RD.out (by (repeat (first | (with_reducible exact Below.refl _ _) | (with_reducible assumption) | (with_reducible refine b_drew ?_) | (with_reducible refine b_drewN ?_ _) | (with_reducible refine b_alloc ?_ _) | ((with_reducible refine b_set ?_ ?_ _); rotate_left; (focus (first | omega | (simp; done) | (simp; omega) | (simp at *; omega)))) | (with_reducible refine b_call ?_ (by with_reducible assumption))))), by (repeat (first | (with_reducible exact Below.refl _ _) | (with_reducible assumption) | (with_reducible refine b_drew ?_) | (with_reducible refine b_drewN ?_ _) | (with_reducible refine b_alloc ?_ _) | ((with_reducible refine b_set ?_ ?_ _); rotate_left; (focus (first | omega | (simp; done) | (simp; omega) | (simp at *; omega)))) | (with_reducible refine b_call ?_ (by with_reducible assumption)))), .inl rfl⟩
  by_cases hv : Val (a, b, d)
  case neg =>
    have hvc := vcode_no hv
    have hE0 : rvE ⟨k, t, true, f⟩ q (a, b, d) n = 1 := by rw [hE, hvc]; rfl
    rw [hE0, rvS_bad (by rw [hE0]; decide)]
    clear hE hE0 hfq hv
    go_enter Try.func30, Try.ntmps30
    go_wp2_with fail
    refine (refvalidate3 a b d _).mono ?_
    rintro e w2 ⟨rfl, hb2⟩
    have V8 := (vr_new2 w (.cells #[.int .i64 t, .slice (some ⟨b0, o0, none⟩) k c, .bool true] 56) (.cells #[.int .i64 a, .int .i64 b, .int .i64 d] 25) 56 #[.int .i64 0, .slice none 0 0, .bool false]).alloc (.cells #[.bool true, .int .u64 sh, .bool false, .int .i64 sa, .int .i64 sb, .int .i64 sd] 81)
    have V8 := Lib.hid (V8.call hb2)
    have V4 := Lib.hid (((((Vr.new w 56 #[.int .i64 t, .slice (some ⟨b0, o0, none⟩) k c, .bool true]).alloc _).alloc _).alloc _).call hb2)
    have HB2 : Below w.heap.size w w2 := by (repeat (first | (with_reducible exact Below.refl _ _) | (with_reducible assumption) | (with_reducible refine b_drew ?_) | (with_reducible refine b_drewN ?_ _) | (with_reducible refine b_alloc ?_ _) | ((with_reducible refine b_set ?_ ?_ _); rotate_left; (focus (first | omega | (simp; done) | (simp; omega) | (simp at *; omega)))) | (with_reducible refine b_call ?_ (by with_reducible assumption))))
    obtain ⟨v1, v2, v3⟩ := V8.out.facts
    obtain ⟨_, u2, _⟩ := V4.out.facts
    clear z0 z1 z2 z3 z4 z5 hb2
    go_wp2
    refine name_post ?_
    intro Z hZ
    have VZ := Lib.hid (show Vr Z (w.heap.size + 1 + 1) 56 #[.int .i64 t, .slice (some ⟨b0, o0, none⟩) k c, .bool true] from by rw [hZ]; simpa using ((V8.out.set 0 (.int .i64 t)).set 1 (.slice (some ⟨b0, o0, none⟩) k c)).set 2 (.bool true))
    have HBZ : Below w.heap.size w Z := by rw [hZ]; exact b_set (b_set (b_set HB2 (by simp; omega) _) (by simp; omega) _) (by simp; omega) _
    obtain ⟨q1, q2, q3⟩ := VZ.out.facts
    clear hZ V8 V4 v1 v2 v3 u2
    exact bodyPost_ret (v := .tuple #[.agg #[.int .i64 t, .slice (some ⟨b0, o0, none⟩) k c, .bool true], .int .i64 1]) (by simp [results, Try.results30, go_sem, q2]) rfl ⟨_, c, rfl, rd_step RD.out HBZ, HBZ, .inl rfl⟩
  have hvc := vcode_yes hv
  have HV := Lib.hid hv
  clear hv
  have hE1 : rvE ⟨k, t, true, f⟩ q (a, b, d) n = if cmtI q t (a, b, d) n = sh then 0 else 21 := by
    rw [hE]
    by_cases h : cmtI q t (a, b, d) n = sh <;> simp [h, hvc]
  clear hE
  have key : ∀ W : World, Below w.heap.size w W → W = W := fun _ _ => rfl
  clear key
  by_cases hcm : cmtI q t (a, b, d) n = sh
  case neg =>
    have hE0 : rvE ⟨k, t, true, f⟩ q (a, b, d) n = 21 := by rw [hE1, if_neg hcm]
    rw [hE0, rvS_bad (by rw [hE0]; decide)]
    have q1 : (cmtI q t (a, b, d) n != sh) = true := by rw [bne_iff_ne]; exact hcm
    clear hE1 hE0 hfq hcm
    go_enter Try.func30, Try.ntmps30
    go_wp2_with fail
    refine (refvalidate3 a b d _).mono ?_
    rintro e w2 ⟨rfl, hb2⟩
    have V10 := Lib.hid ((vr_new3 w (.cells #[.int .i64 t, .slice (some ⟨b0, o0, none⟩) k c, .bool true] 56) (.cells #[.int .i64 a, .int .i64 b, .int .i64 d] 25) (.cells #[.int .i64 0, .slice none 0 0, .bool false] 56) 81 #[.bool true, .int .u64 sh, .bool false, .int .i64 sa, .int .i64 sb, .int .i64 sd]).call hb2)
    have V8 := Lib.hid (((vr_new2 w (.cells #[.int .i64 t, .slice (some ⟨b0, o0, none⟩) k c, .bool true] 56) (.cells #[.int .i64 a, .int .i64 b, .int .i64 d] 25) 56 #[.int .i64 0, .slice none 0 0, .bool false]).alloc (.cells #[.bool true, .int .u64 sh, .bool false, .int .i64 sa, .int .i64 sb, .int .i64 sd] 81)).call hb2)
    have V6 := Lib.hid ((((vr_new1 w (.cells #[.int .i64 t, .slice (some ⟨b0, o0, none⟩) k c, .bool true] 56) 25 #[.int .i64 a, .int .i64 b, .int .i64 d]).alloc _).alloc _).call hb2)
    have V4 := Lib.hid (((((Vr.new w 56 #[.int .i64 t, .slice (some ⟨b0, o0, none⟩) k c, .bool true]).alloc _).alloc _).alloc _).call hb2)
    have HB2 : Below w.heap.size w w2 := by (repeat (first | (with_reducible exact Below.refl _ _) | (with_reducible assumption) | (with_reducible refine b_drew ?_) | (with_reducible refine b_drewN ?_ _) | (with_reducible refine b_alloc ?_ _) | ((with_reducible refine b_set ?_ ?_ _); rotate_left; (focus (first | omega | (simp; done) | (simp; omega) | (simp at *; omega)))) | (with_reducible refine b_call ?_ (by with_reducible assumption))))
    have l10 := V10.out.lt
    have l4 := V4.out.lt
    have l6 := V6.out.lt
    have u0 : w2.cell? ⟨w.heap.size, 0, none⟩ = some (.int .i64 t) := V4.out.cell 0
    have u1 : w2.cell? ⟨w.heap.size + 1, 0, none⟩ = some (.int .i64 a) := V6.out.cell 0
    have u2 : w2.cell? ⟨w.heap.size + 1, 1, none⟩ = some (.int .i64 b) := V6.out.cell 1
    have u3 : w2.cell? ⟨w.heap.size + 1, 2, none⟩ = some (.int .i64 d) := V6.out.cell 2
    have u4 : w2.cell? ⟨w.heap.size + 1 + 1 + 1, 1, none⟩ = some (.int .u64 sh) := V10.out.cell 1
    clear z0 z1 z2 z3 z4 z5 hb2
    go_wp2
    go_region_held3 (fun w' => (∀ b o, b < w2.heap.size → w'.cell? ⟨b, o, none⟩ = w2.cell? ⟨b, o, none⟩) ∧ Below w2.heap.size w2 w') (first | exact still_call (by assumption) (by assumption) | exact still_drew0 _ | exact still_drew (by assumption) | exact still_alloc (by assumption) _ | exact still_of (by (repeat (first | (with_reducible exact Below.refl _ _) | (with_reducible assumption) | (with_reducible refine b_drew ?_) | (with_reducible refine b_drewN ?_ _) | (with_reducible refine b_alloc ?_ _) | ((with_reducible refine b_set ?_ ?_ _); rotate_left; (focus (first | omega | (simp; done) | (simp; omega) | (simp at *; omega)))) | (with_reducible refine b_call ?_ (by with_reducible assumption)))))) ((go_at_call 12; refine (refcmt_any q t a b d n _ HV.out HN.out).mono ?_; rintro e w3 ⟨rfl, hb3⟩))
    go_upto_if 52 with fail
    refine name_world ?_
    intro X hX
    have HX2 : Below w2.heap.size w2 X := by rw [hX]; (repeat (first | (with_reducible exact Below.refl _ _) | (with_reducible assumption) | (with_reducible refine b_drew ?_) | (with_reducible refine b_drewN ?_ _) | (with_reducible refine b_alloc ?_ _) | ((with_reducible refine b_set ?_ ?_ _); rotate_left; (focus (first | omega | (simp; done) | (simp; omega) | (simp at *; omega)))) | (with_reducible refine b_call ?_ (by with_reducible assumption))))
    have HBX := b_call HB2 HX2
    have V10 := Lib.hid (V10.out.call HX2)
    have V8 := Lib.hid (V8.out.call HX2)
    have V6 := Lib.hid (V6.out.call HX2)
    have V4 := Lib.hid (V4.out.call HX2)
    have l8 := V8.out.lt
    have l10 := V10.out.lt
    have f8 := V8.out.frozen
    have y0 : X.cell? ⟨w.heap.size, 0, none⟩ = some (.int .i64 t) := V4.out.cell 0
    have y1 : X.cell? ⟨w.heap.size, 1, none⟩ = some (.slice (some ⟨b0, o0, none⟩) k c) := V4.out.cell 1
    have y2 : X.cell? ⟨w.heap.size, 2, none⟩ = some (.bool true) := V4.out.cell 2
    have t0 : X.cell? ⟨w.heap.size + 1 + 1, 0, none⟩ = some (.int .i64 0) := V8.out.cell 0
    have t1 : X.cell? ⟨w.heap.size + 1 + 1, 1, none⟩ = some (.slice none 0 0) := V8.out.cell 1
    have t2 : X.cell? ⟨w.heap.size + 1 + 1, 2, none⟩ = some (.bool false) := V8.out.cell 2
    clear hX u0 u1 u2 u3 u4 hb3
    go_wp2
    refine name_post ?_
    intro Z hZ
    have VZ := Lib.hid (show Vr Z (w.heap.size + 1 + 1) 56 #[.int .i64 t, .slice (some ⟨b0, o0, none⟩) k c, .bool true] from by rw [hZ]; simpa using ((V8.out.set 0 (.int .i64 t)).set 1 (.slice (some ⟨b0, o0, none⟩) k c)).set 2 (.bool true))
    have HBZ : Below w.heap.size w Z := by rw [hZ]; exact b_set (b_set (b_set HBX (by simp; omega) _) (by simp; omega) _) (by simp; omega) _
    obtain ⟨q1, q2, q3⟩ := VZ.out.facts
    clear hZ V8 V4 V6 V10
    exact bodyPost_ret (v := .tuple #[.agg #[.int .i64 t, .slice (some ⟨b0, o0, none⟩) k c, .bool true], .int .i64 21]) (by simp [results, Try.results30, go_sem, q2]) rfl ⟨_, c, rfl, rd_step RD.out HBZ, HBZ, .inl rfl⟩
  have hE0 : rvE ⟨k, t, true, f⟩ q (a, b, d) n = 0 := by rw [hE1, if_pos hcm]
  have hS : rvS ⟨k, t, true, f⟩ q (a, b, d) n = ⟨k, t, true, setSt f q ⟨true, true, sh, (a, b, d)⟩⟩ := by
    unfold rvS
    rw [if_pos hE0, toNat_q]
    unfold rvR
    simp only [hfq]
  rw [hE0, hS]
  have q1 : (cmtI q t (a, b, d) n != sh) = false := by rw [bne_eq_false_iff_eq]; exact hcm
  clear hE1 hE0 hfq hcm hS
  go_enter Try.func30, Try.ntmps30
  go_wp2_with fail
  refine (refvalidate3 a b d _).mono ?_
  rintro e w2 ⟨rfl, hb2⟩
  have V10 := Lib.hid ((vr_new3 w (.cells #[.int .i64 t, .slice (some ⟨b0, o0, none⟩) k c, .bool true] 56) (.cells #[.int .i64 a, .int .i64 b, .int .i64 d] 25) (.cells #[.int .i64 0, .slice none 0 0, .bool false] 56) 81 #[.bool true, .int .u64 sh, .bool false, .int .i64 sa, .int .i64 sb, .int .i64 sd]).call hb2)
  have V8 := Lib.hid (((vr_new2 w (.cells #[.int .i64 t, .slice (some ⟨b0, o0, none⟩) k c, .bool true] 56) (.cells #[.int .i64 a, .int .i64 b, .int .i64 d] 25) 56 #[.int .i64 0, .slice none 0 0, .bool false]).alloc (.cells #[.bool true, .int .u64 sh, .bool false, .int .i64 sa, .int .i64 sb, .int .i64 sd] 81)).call hb2)
  have V6 := Lib.hid ((((vr_new1 w (.cells #[.int .i64 t, .slice (some ⟨b0, o0, none⟩) k c, .bool true] 56) 25 #[.int .i64 a, .int .i64 b, .int .i64 d]).alloc _).alloc _).call hb2)
  have V4 := Lib.hid (((((Vr.new w 56 #[.int .i64 t, .slice (some ⟨b0, o0, none⟩) k c, .bool true]).alloc _).alloc _).alloc _).call hb2)
  have HB2 : Below w.heap.size w w2 := by (repeat (first | (with_reducible exact Below.refl _ _) | (with_reducible assumption) | (with_reducible refine b_drew ?_) | (with_reducible refine b_drewN ?_ _) | (with_reducible refine b_alloc ?_ _) | ((with_reducible refine b_set ?_ ?_ _); rotate_left; (focus (first | omega | (simp; done) | (simp; omega) | (simp at *; omega)))) | (with_reducible refine b_call ?_ (by with_reducible assumption))))
  have l10 := V10.out.lt
  have l4 := V4.out.lt
  have l6 := V6.out.lt
  have u0 : w2.cell? ⟨w.heap.size, 0, none⟩ = some (.int .i64 t) := V4.out.cell 0
  have u1 : w2.cell? ⟨w.heap.size + 1, 0, none⟩ = some (.int .i64 a) := V6.out.cell 0
  have u2 : w2.cell? ⟨w.heap.size + 1, 1, none⟩ = some (.int .i64 b) := V6.out.cell 1
  have u3 : w2.cell? ⟨w.heap.size + 1, 2, none⟩ = some (.int .i64 d) := V6.out.cell 2
  have u4 : w2.cell? ⟨w.heap.size + 1 + 1 + 1, 1, none⟩ = some (.int .u64 sh) := V10.out.cell 1
  clear z0 z1 z2 z3 z4 z5 hb2
  go_wp2
  go_region_held3 (fun w' => (∀ b o, b < w2.heap.size → w'.cell? ⟨b, o, none⟩ = w2.cell? ⟨b, o, none⟩) ∧ Below w2.heap.size w2 w') (first | exact still_call (by assumption) (by assumption) | exact still_drew0 _ | exact still_drew (by assumption) | exact still_alloc (by assumption) _ | exact still_of (by (repeat (first | (with_reducible exact Below.refl _ _) | (with_reducible assumption) | (with_reducible refine b_drew ?_) | (with_reducible refine b_drewN ?_ _) | (with_reducible refine b_alloc ?_ _) | ((with_reducible refine b_set ?_ ?_ _); rotate_left; (focus (first | omega | (simp; done) | (simp; omega) | (simp at *; omega)))) | (with_reducible refine b_call ?_ (by with_reducible assumption)))))) ((go_at_call 12; refine (refcmt_any q t a b d n _ HV.out HN.out).mono ?_; rintro e w3 ⟨rfl, hb3⟩))
  go_upto_if 52 with fail
  refine name_world ?_
  intro X hX
  have HX2 : Below w2.heap.size w2 X := by rw [hX]; (repeat (first | (with_reducible exact Below.refl _ _) | (with_reducible assumption) | (with_reducible refine b_drew ?_) | (with_reducible refine b_drewN ?_ _) | (with_reducible refine b_alloc ?_ _) | ((with_reducible refine b_set ?_ ?_ _); rotate_left; (focus (first | omega | (simp; done) | (simp; omega) | (simp at *; omega)))) | (with_reducible refine b_call ?_ (by with_reducible assumption))))
  have HBX := b_call HB2 HX2
  have V10 := Lib.hid (V10.out.call HX2)
  have V8 := Lib.hid (V8.out.call HX2)
  have V6 := Lib.hid (V6.out.call HX2)
  have V4 := Lib.hid (V4.out.call HX2)
  have l8 := V8.out.lt
  have l10 := V10.out.lt
  have f8 := V8.out.frozen
  have y0 : X.cell? ⟨w.heap.size, 0, none⟩ = some (.int .i64 t) := V4.out.cell 0
  have y1 : X.cell? ⟨w.heap.size, 1, none⟩ = some (.slice (some ⟨b0, o0, none⟩) k c) := V4.out.cell 1
  have y2 : X.cell? ⟨w.heap.size, 2, none⟩ = some (.bool true) := V4.out.cell 2
  have t0 : X.cell? ⟨w.heap.size + 1 + 1, 0, none⟩ = some (.int .i64 0) := V8.out.cell 0
  have t1 : X.cell? ⟨w.heap.size + 1 + 1, 1, none⟩ = some (.slice none 0 0) := V8.out.cell 1
  have t2 : X.cell? ⟨w.heap.size + 1 + 1, 2, none⟩ = some (.bool false) := V8.out.cell 2
  clear hX u0 u1 u2 u3 u4 hb3
  have x10 : ∀ i, X.frozen? ⟨w.heap.size + 1 + 1 + 1, i, none⟩ = false := V10.out.frozen
  have p1 : X.cell? ⟨w.heap.size + 1, 0, none⟩ = some (.int .i64 a) := V6.out.cell 0
  have p2 : X.cell? ⟨w.heap.size + 1, 1, none⟩ = some (.int .i64 b) := V6.out.cell 1
  have p3 : X.cell? ⟨w.heap.size + 1, 2, none⟩ = some (.int .i64 d) := V6.out.cell 2
  have r0 : X.cell? ⟨w.heap.size + 1 + 1 + 1, 0, none⟩ = some (.bool true) := V10.out.cell 0
  have r1 : X.cell? ⟨w.heap.size + 1 + 1 + 1, 1, none⟩ = some (.int .u64 sh) := V10.out.cell 1
  have r2 : X.cell? ⟨w.heap.size + 1 + 1 + 1, 2, none⟩ = some (.bool false) := V10.out.cell 2
  have r3 : X.cell? ⟨w.heap.size + 1 + 1 + 1, 3, none⟩ = some (.int .i64 sa) := V10.out.cell 3
  have r4 : X.cell? ⟨w.heap.size + 1 + 1 + 1, 4, none⟩ = some (.int .i64 sb) := V10.out.cell 4
  have r5 : X.cell? ⟨w.heap.size + 1 + 1 + 1, 5, none⟩ = some (.int .i64 sd) := V10.out.cell 5
  have hXs := HBX.size
  go_upto_region 17 with (fail)
  refine name_world ?_
  intro Y hY
  have V10 := Lib.hid (show Vr Y (w.heap.size + 1 + 1 + 1) 81 #[.bool true, .int .u64 sh, .bool true, .int .i64 a, .int .i64 b, .int .i64 d] from by rw [hY]; simpa using (((V10.out.set 2 (.bool true)).set 3 (.int .i64 a)).set 4 (.int .i64 b)).set 5 (.int .i64 d))
  have OY : Only (· = w.heap.size + 1 + 1 + 1) X Y := by rw [hY]; exact o_set (o_set (o_set (o_set (Only.refl _ _) _ _) _ _) _ _) _ _
  have V8 := Lib.hid (V8.out.only OY (by omega))
  have V4 := Lib.hid (V4.out.only OY (by omega))
  have HBY : Below w.heap.size w Y := HBX.trans (OY.below hXs (by rintro j rfl; omega))
  clear hY OY p1 p2 p3 r0 r1 r2 r3 r4 r5 y0 y1 y2 t0 t1 t2 x10 f8 V6
  have y0 : Y.cell? ⟨w.heap.size, 0, none⟩ = some (.int .i64 t) := V4.out.cell 0
  have y1 : Y.cell? ⟨w.heap.size, 1, none⟩ = some (.slice (some ⟨b0, o0, none⟩) k c) := V4.out.cell 1
  have y2 : Y.cell? ⟨w.heap.size, 2, none⟩ = some (.bool true) := V4.out.cell 2
  have r0 : Y.cell? ⟨w.heap.size + 1 + 1 + 1, 0, none⟩ = some (.bool true) := V10.out.cell 0
  have r1 : Y.cell? ⟨w.heap.size + 1 + 1 + 1, 1, none⟩ = some (.int .u64 sh) := V10.out.cell 1
  have r2 : Y.cell? ⟨w.heap.size + 1 + 1 + 1, 2, none⟩ = some (.bool true) := V10.out.cell 2
  have r3 : Y.cell? ⟨w.heap.size + 1 + 1 + 1, 3, none⟩ = some (.int .i64 a) := V10.out.cell 3
  have r4 : Y.cell? ⟨w.heap.size + 1 + 1 + 1, 4, none⟩ = some (.int .i64 b) := V10.out.cell 4
  have r5 : Y.cell? ⟨w.heap.size + 1 + 1 + 1, 5, none⟩ = some (.int .i64 d) := V10.out.cell 5
  go_wp2_with fail
  refine (with_any (some ⟨b0, o0, none⟩) k c q t true f ⟨true, true, sh, (a, b, d)⟩ _ (rd_step RD.out HBY) hq hk).mono ?_
  rintro e w4 ⟨A2, c2, rfl, own2, hb4⟩
  have V8 := Lib.hid (V8.out.call hb4)
  have OW2 := Lib.hid own2
  have HB4 : Below w.heap.size w w4 := b_call HBY hb4
  have hYs := V10.out.lt
  obtain ⟨v1, v2, v3⟩ := V8.out.facts
  clear own2 hb4 y0 y1 y2 r0 r1 r2 r3 r4 r5 V10 V4
  simp only
  go_wp2
  refine name_post ?_
  intro Z hZ
  have VZ := Lib.hid (show Vr Z (w.heap.size + 1 + 1) 56 #[.int .i64 t, .slice A2 k c2, .bool true] from by rw [hZ]; simpa using ((V8.out.set 0 (.int .i64 t)).set 1 (.slice A2 k c2)).set 2 (.bool true))
  have HBZ : Below w.heap.size w Z := by rw [hZ]; exact b_set (b_set (b_set HB4 (by simp; omega) _) (by simp; omega) _) (by simp; omega) _
  have HRZ := Lib.hid (show Rd Z Z.heap.size 6 A2 k (onesC (setSt f q ⟨true, true, sh, (a, b, d)⟩) k) from by
    refine rd_own (own_only (g := w.heap.size + 1 + 1) OW2.out (show Only (· = w.heap.size + 1 + 1) w4 Z from by rw [hZ]; exact o_set (o_set (o_set (Only.refl _ _) _ _) _ _) _ _) fun e => ?_)
    have := (OW2.out.lt _ e).1
    omega)
  obtain ⟨q1, q2, q3⟩ := VZ.out.facts
  clear hZ V8 v1 v2 v3
  exact bodyPost_ret (v := .tuple #[.agg #[.int .i64 t, .slice A2 k c2, .bool true], .int .i64 0]) (by simp [results, Try.results30, go_sem, q2]) rfl ⟨_, _, rfl, HRZ.out, HBZ, .inr fun a e => by have := (OW2.out.lt a.block (by rw [e]; rfl)).1; have := HBY.size; omega⟩
end
end Go.Proofs.Ytojmkfhinkmhaaa
