/-
  WHAT IS PROVED HERE: the walk of the law CommitrevealBinds: it returns true at every input and leaves old memory as it was.
-/
import Derived.Test.YtojmkfhinkmhaaaCrJ
namespace Go.Proofs.Ytojmkfhinkmhaaa
set_option linter.unusedVariables false
open Go.ChangeShapes Go.WideShapes Go.ChangeAt Go.RowKit

def b2 (T C : Int) : RdV := closeR (cmR (newR 3 T) 1 C)
theorem bE1 (T : Int) : cmE (newR 3 T) 1 = 0 := rfl
theorem bS1 (T C : Int) : cmS (newR 3 T) 1 C = cmR (newR 3 T) 1 C := rfl
theorem rvE_step {r : RdV} {q : Nat} {x : Inp} {n : Int} (hv : Val x) (hk : badP r.k q = false) (ho : r.o = true) (hc : (r.st q).c = true) (hr : (r.st q).r = false) : rvE r q x n = if cmtI q r.t x n = (r.st q).h then 0 else 21 := by
  unfold rvE
  rw [hk, ho, show ((q : Int)).toNat = q from rfl, hc, hr, vcode_yes hv]
  by_cases h : cmtI q r.t x n = (r.st q).h <;> simp [h]
theorem bE2 (T C : Int) {x : Inp} (n : Int) (hv : Val x) : rvE (b2 T C) 1 x n = if cmtI 1 T x n = C then 0 else 21 := rvE_step (r := b2 T C) (q := 1) hv rfl rfl rfl rfl
theorem bE3 (T C : Int) (x y : Inp) (n : Int) : rvE (rvR (b2 T C) 1 y) 1 x n = 4 := rfl
theorem bS3 (T C : Int) (x y : Inp) (n : Int) : rvS (rvR (b2 T C) 1 y) 1 x n = rvR (b2 T C) 1 y := rfl
theorem bE4 (T C : Int) (x : Inp) (n : Int) : rvE (b2 T C) 2 x n = 21 := rfl
theorem bS4 (T C : Int) (x : Inp) (n : Int) : rvS (b2 T C) 2 x n = b2 T C := rfl
theorem bS2 (T C : Int) (x : Inp) (n : Int) (h : rvE (b2 T C) 1 x n = 0) : rvS (b2 T C) 1 x n = rvR (b2 T C) 1 x := by unfold rvS; rw [if_pos h]; rfl
theorem bS2n (T C : Int) (x : Inp) (n : Int) (h : rvE (b2 T C) 1 x n = 21) : rvS (b2 T C) 1 x n = b2 T C := by unfold rvS; rw [if_neg (by rw [h]; decide)]
theorem bres (T C : Int) (x : Inp) : resL (rvR (b2 T C) 1 x) [] 3 = [(0, 0, 0), x, (0, 0, 0)] := rfl
theorem bfau (T C : Int) (x : Inp) : resF (rvR (b2 T C) 1 x) 3 = [0, 2] := rfl
theorem bk (T C : Int) (x : Inp) : (rvR (b2 T C) 1 x).k = 3 := rfl
theorem three8 : 3 ≤ 8 := by omega
/-- The round alone may have changed; what lies at i has not. -/
structure Cx (w0 w : World) (p : Nat) (r : RdV) : Prop where
  cr : Cr w p r
  hp : w0.heap.size ≤ p
  hb : Below w0.heap.size w0 w
theorem Cx.turn {w0 w w' : World} {p : Nat} {r r' : RdV} (h : Cx w0 w p r) (hc : Cr w' p r') (hO : Only (· = p) w w') : Cx w0 w' p r' := ⟨hc, h.hp, below_cr h.hb h.hp hO⟩
theorem Cx.call {w0 w w' : World} {p : Nat} {r : RdV} (h : Cx w0 w p r) (hb : Below w.heap.size w w') : Cx w0 w' p r := ⟨h.cr.call hb, h.hp, b_call h.hb hb⟩
set_option maxRecDepth 100000 in
set_option maxHeartbeats 4000000 in
theorem binds_walk (n nc m ot t : Int) (w : World) (hn : -9223372036854775808 ≤ n ∧ n ≤ 9223372036854775807) (hc : 0 ≤ nc ∧ nc ≤ 18446744073709551615) (hm : -9223372036854775808 ≤ m ∧ m ≤ 9223372036854775807) (ho : 0 ≤ ot ∧ ot ≤ 18446744073709551615) (ht : -9223372036854775808 ≤ t ∧ t ≤ 9223372036854775807) :
    Calls Try.prog 5 #[.int .i64 n, .int .u64 nc, .int .i64 m, .int .u64 ot, .int .i64 t] w fun e w' => e = .returned (.bool true) ∧ Below w.heap.size w w' := by
  have HC := Lib.hid hc
  have HO := Lib.hid ho
  obtain ⟨n1, n2⟩ := hn
  obtain ⟨m1, m2⟩ := hm
  obtain ⟨t1, t2⟩ := ht
  clear hc ho
  go_enter Try.func5, Try.ntmps5
  go_wp2_with fail
  refine (of_any n _ n1 n2).mono ?_
  rintro e w1 ⟨rfl, hb1⟩
  have HV := Lib.hid (inpOf_val n)
  obtain ⟨⟨a, b, c⟩, hx⟩ : ∃ x, inpOf n = x := ⟨_, rfl⟩
  rw [hx] at HV ⊢
  clear hx
  go_wp2_with fail
  refine (of_any m _ m1 m2).mono ?_
  rintro e w2 ⟨rfl, hb2⟩
  have HW := Lib.hid (inpOf_val m)
  obtain ⟨⟨d, f, g⟩, hx⟩ : ∃ x, inpOf m = x := ⟨_, rfl⟩
  rw [hx] at HW ⊢
  clear hx
  go_wp2_with fail
  refine (around_any t 6001 _ t1 t2 (by omega) (by omega)).mono ?_
  rintro e w_ ⟨rfl, rfl⟩
  generalize around t 6001 = T
  go_upto_region 4 with (fail)
  refine name_world ?_
  intro X hX
  have V1 := Lib.hid (show Vr X w1.heap.size 25 #[.int .i64 a, .int .i64 b, .int .i64 c] from by rw [hX]; exact ((Vr.new w1 _ _).call hb2).alloc _)
  have V2 := Lib.hid (show Vr X w2.heap.size 25 #[.int .i64 d, .int .i64 f, .int .i64 g] from by rw [hX]; exact Vr.new w2 _ _)
  have HB := Lib.hid (show Below w.heap.size w X from by rw [hX]; (repeat (first | (with_reducible exact Below.refl _ _) | (with_reducible assumption) | (with_reducible refine b_drew ?_) | (with_reducible refine b_drewN ?_ _) | (with_reducible refine b_alloc ?_ _) | ((with_reducible refine b_set ?_ ?_ _); rotate_left; (focus (first | omega | (simp; done) | (simp; omega) | (simp at *; omega)))) | (with_reducible refine b_call ?_ (by with_reducible assumption)))))
  obtain ⟨i, hi⟩ : ∃ i, w1.heap.size = i := ⟨_, rfl⟩
  obtain ⟨j, hj⟩ : ∃ i, w2.heap.size = i := ⟨_, rfl⟩
  rw [hi] at V1 ⊢
  rw [hj] at V2 ⊢
  clear hX hi hj hb1 hb2 n1 n2 m1 m2 t1 t2
  have y0 : X.cell? ⟨i, 0, none⟩ = some (.int .i64 a) := V1.out.cell 0
  have y1 : X.cell? ⟨i, 1, none⟩ = some (.int .i64 b) := V1.out.cell 1
  have y2 : X.cell? ⟨i, 2, none⟩ = some (.int .i64 c) := V1.out.cell 2
  go_wp2_with fail
  refine (cmt_any 1 T a b c nc _ HV.out HC.out).mono ?_
  rintro e w3 ⟨rfl, hb3⟩
  obtain ⟨C, hCC⟩ : ∃ C, cmtI 1 T (a, b, c) nc = C := ⟨_, rfl⟩
  rw [hCC]
  have HCC := Lib.hid hCC
  clear hCC y0 y1 y2
  go_wp2_with fail
  refine (crnew_q 3 T _ (by omega)).mono ?_
  rintro e w4 ⟨p, rfl, hp, hC4, hb4⟩
  have hne1 : ¬ i = p := by have := (V1.out.call hb3).lt; omega
  have hne2 : ¬ j = p := by have := (V2.out.call hb3).lt; omega
  have X4 := Lib.hid (Cx.mk (w0 := w) hC4 (by have := (b_call HB.out hb3).size; omega) (b_call (b_call HB.out hb3) hb4))
  have V1 := Lib.hid ((V1.out.call hb3).call hb4)
  have V2 := Lib.hid ((V2.out.call hb3).call hb4)
  clear hC4 hb3 hb4 HB hp
  go_wp2_with fail
  refine (commit_q p 1 C (newR 3 T) _ 0 _ (bE1 T) (bS1 T C) X4.out.cr three8).mono ?_
  rintro e w5 ⟨rfl, hC5, hO5⟩
  have X5 := Lib.hid (X4.out.turn hC5 hO5)
  have V1 := Lib.hid (V1.out.only hO5 hne1)
  have V2 := Lib.hid (V2.out.only hO5 hne2)
  clear hC5 hO5 X4
  go_wp2_with fail
  refine (crclose_any p _ _ X5.out.cr).mono ?_
  rintro e w6 ⟨rfl, hC6, hO6⟩
  have X6 := Lib.hid (show Cx w w6 p (b2 T C) from X5.out.turn hC6 hO6)
  have V1 := Lib.hid (V1.out.only hO6 hne1)
  have V2 := Lib.hid (V2.out.only hO6 hne2)
  clear hC6 hO6 X5
  have y0 : w6.cell? ⟨j, 0, none⟩ = some (.int .i64 d) := V2.out.cell 0
  have y1 : w6.cell? ⟨j, 1, none⟩ = some (.int .i64 f) := V2.out.cell 1
  have y2 : w6.cell? ⟨j, 2, none⟩ = some (.int .i64 g) := V2.out.cell 2
  go_wp2_with fail
  refine (cmt_any 1 T d f g ot _ HW.out HO.out).mono ?_
  rintro e w7 ⟨rfl, hb7⟩
  have V1 := Lib.hid (V1.out.call hb7)
  have V2 := Lib.hid (V2.out.call hb7)
  have X7 := Lib.hid (X6.out.call hb7)
  obtain ⟨O, hOO⟩ : ∃ C, cmtI 1 T (d, f, g) ot = C := ⟨_, rfl⟩
  have HE := Lib.hid (bE2 T C ot HW.out)
  rw [hOO] at HE ⊢
  have HOO := Lib.hid hOO
  clear hOO hb7 X6 y0 y1 y2
  have y0 : w7.cell? ⟨j, 0, none⟩ = some (.int .i64 d) := V2.out.cell 0
  have y1 : w7.cell? ⟨j, 1, none⟩ = some (.int .i64 f) := V2.out.cell 1
  have y2 : w7.cell? ⟨j, 2, none⟩ = some (.int .i64 g) := V2.out.cell 2
  by_cases he : O = C
  · have E1 := Lib.hid (show rvE (b2 T C) 1 (d, f, g) ot = 0 from by rw [HE.out, if_pos he])
    have q1 : (O == C) = true := by rw [beq_iff_eq]; exact he
    clear he
    go_wp2_with fail
    refine (reveal_q p 1 d f g ot _ _ 0 _ E1.out (bS2 T C _ _ E1.out) X7.out.cr three8 HO.out).mono ?_
    rintro e w8 ⟨rfl, hC8, hO8⟩
    have X8 := Lib.hid (X7.out.turn hC8 hO8)
    have V1 := Lib.hid (V1.out.only hO8 hne1)
    clear hC8 hO8 X7 V2 y0 y1 y2
    have y0 : w8.cell? ⟨i, 0, none⟩ = some (.int .i64 a) := V1.out.cell 0
    have y1 : w8.cell? ⟨i, 1, none⟩ = some (.int .i64 b) := V1.out.cell 1
    have y2 : w8.cell? ⟨i, 2, none⟩ = some (.int .i64 c) := V1.out.cell 2
    go_wp2_with fail
    refine (reveal_q p 1 a b c nc _ _ 4 _ (bE3 T C _ _ _) (bS3 T C _ _ _) X8.out.cr three8 HC.out).mono ?_
    rintro e w9 ⟨rfl, hC9, hO9⟩
    have X9 := Lib.hid (X8.out.turn hC9 hO9)
    clear hC9 hO9 y0 y1 y2
    go_wp2_with fail
    refine (lives_any _).mono ?_
    rintro e w10 ⟨rfl, hb10⟩
    go_wp2
    go_ret
    exact ⟨rfl, (X9.out.call hb10).hb⟩
  · have E1 := Lib.hid (show rvE (b2 T C) 1 (d, f, g) ot = 21 from by rw [HE.out, if_neg he])
    have E2 := Lib.hid (show rvE (b2 T C) 1 (a, b, c) nc = 0 from by rw [bE2 T C nc HV.out, HCC.out, if_pos rfl])
    have q1 : (O == C) = false := by rw [beq_eq_false_iff_ne]; exact he
    clear he
    go_wp2_with fail
    refine (reveal_q p 1 d f g ot _ _ 21 _ E1.out (bS2n T C _ _ E1.out) X7.out.cr three8 HO.out).mono ?_
    rintro e w8 ⟨rfl, hC8, hO8⟩
    have X8 := Lib.hid (X7.out.turn hC8 hO8)
    have V1 := Lib.hid (V1.out.only hO8 hne1)
    clear hC8 hO8 X7 V2 y0 y1 y2
    have y0 : w8.cell? ⟨i, 0, none⟩ = some (.int .i64 a) := V1.out.cell 0
    have y1 : w8.cell? ⟨i, 1, none⟩ = some (.int .i64 b) := V1.out.cell 1
    have y2 : w8.cell? ⟨i, 2, none⟩ = some (.int .i64 c) := V1.out.cell 2
    go_wp2_with fail
    refine (reveal_q p 2 a b c nc _ _ 21 _ (bE4 T C _ _) (bS4 T C _ _) X8.out.cr three8 HC.out).mono ?_
    rintro e w9 ⟨rfl, hC9, hO9⟩
    have X9 := Lib.hid (X8.out.turn hC9 hO9)
    have V1 := Lib.hid (V1.out.only hO9 hne1)
    clear hC9 hO9 X8 y0 y1 y2
    have y0 : w9.cell? ⟨i, 0, none⟩ = some (.int .i64 a) := V1.out.cell 0
    have y1 : w9.cell? ⟨i, 1, none⟩ = some (.int .i64 b) := V1.out.cell 1
    have y2 : w9.cell? ⟨i, 2, none⟩ = some (.int .i64 c) := V1.out.cell 2
    go_wp2_with fail
    refine (reveal_q p 1 a b c nc _ _ 0 _ E2.out (bS2 T C _ _ E2.out) X9.out.cr three8 HC.out).mono ?_
    rintro e w10 ⟨rfl, hC10, hO10⟩
    have X10 := Lib.hid (X9.out.turn hC10 hO10)
    have V1 := Lib.hid (V1.out.only hO10 hne1)
    clear hC10 hO10 X9 y0 y1 y2
    have y0 : w10.cell? ⟨i, 0, none⟩ = some (.int .i64 a) := V1.out.cell 0
    have y1 : w10.cell? ⟨i, 1, none⟩ = some (.int .i64 b) := V1.out.cell 1
    have y2 : w10.cell? ⟨i, 2, none⟩ = some (.int .i64 c) := V1.out.cell 2
    go_wp2_with fail
    refine (reveal_q p 1 a b c nc _ _ 4 _ (bE3 T C _ _ _) (bS3 T C _ _ _) X10.out.cr three8 HC.out).mono ?_
    rintro e w11 ⟨rfl, hC11, hO11⟩
    have X11 := Lib.hid (X10.out.turn hC11 hO11)
    have V1 := Lib.hid (V1.out.only hO11 hne1)
    clear hC11 hO11 X10 y0 y1 y2
    go_wp2_with fail
    refine (result_any p none 0 0 [] _ _ X11.out.cr three8 (Rd.nil _)).mono ?_
    rintro e w12 ⟨A1, c1, A2, c2, rfl, o1, o2, hb12⟩
    rw [bk, bres] at o1
    rw [bk, bfau] at o2
    rw [bk, bfau]
    have R1 := Lib.hid (rd_own o1)
    have R2 := Lib.hid (rd_own o2)
    have X12 := Lib.hid (X11.out.call hb12)
    have V1 := Lib.hid (V1.out.call hb12)
    have y0 : w12.cell? ⟨i, 0, none⟩ = some (.int .i64 a) := V1.out.cell 0
    have y1 : w12.cell? ⟨i, 1, none⟩ = some (.int .i64 b) := V1.out.cell 1
    have y2 : w12.cell? ⟨i, 2, none⟩ = some (.int .i64 c) := V1.out.cell 2
    have hil := V1.out.lt
    clear o1 o2 hb12 X11
    obtain ⟨b1, o1, _, rfl, hbl, z0, z1, z2⟩ := R1.out.openRow (k := 1) (by omega)
    simp only [List.getElem_cons_succ, List.getElem_cons_zero, Nat.one_mul] at z0 z1 z2
    have n1 := fun W => run_eql3 a b c a b c W
    have n2 := eqInp_self (a, b, c)
    go_wp2
    go_region_held3 (fun w' => (∀ b o, b < w12.heap.size → w'.cell? ⟨b, o, none⟩ = w12.cell? ⟨b, o, none⟩) ∧ Below w12.heap.size w12 w') (first | exact still_call (by assumption) (by assumption) | exact still_drew0 _ | exact still_drew (by assumption) | exact still_alloc (by assumption) _ | exact still_of (by (repeat (first | (with_reducible exact Below.refl _ _) | (with_reducible assumption) | (with_reducible refine b_drew ?_) | (with_reducible refine b_drewN ?_ _) | (with_reducible refine b_alloc ?_ _) | ((with_reducible refine b_set ?_ ?_ _); rotate_left; (focus (first | omega | (simp; done) | (simp; omega) | (simp at *; omega)))) | (with_reducible refine b_call ?_ (by with_reducible assumption)))))) (first | (go_at_call 13; refine (lives_any _).mono ?_; rintro e w14 ⟨rfl, hb14⟩) | (go_at_call 21; refine (sameints_any A2 _ 2 c2 2 2 [0, 2] [0, 2] _ (rd_step R2.out (by (repeat (first | (with_reducible exact Below.refl _ _) | (with_reducible assumption) | (with_reducible refine b_drew ?_) | (with_reducible refine b_drewN ?_ _) | (with_reducible refine b_alloc ?_ _) | ((with_reducible refine b_set ?_ ?_ _); rotate_left; (focus (first | omega | (simp; done) | (simp; omega) | (simp at *; omega)))) | (with_reducible refine b_call ?_ (by with_reducible assumption)))))) (Rd.drew (rd_lit w12 _ _ rfl rfl)) (by omega) (by omega)).mono ?_; rintro e w13 ⟨rfl, hb13⟩))
    all_goals
      go_wp2
      go_ret
      exact ⟨rfl, b_call X12.out.hb (by (repeat (first | (with_reducible exact Below.refl _ _) | (with_reducible assumption) | (with_reducible refine b_drew ?_) | (with_reducible refine b_drewN ?_ _) | (with_reducible refine b_alloc ?_ _) | ((with_reducible refine b_set ?_ ?_ _); rotate_left; (focus (first | omega | (simp; done) | (simp; omega) | (simp at *; omega)))) | (with_reducible refine b_call ?_ (by with_reducible assumption)))))⟩
end Go.Proofs.Ytojmkfhinkmhaaa
