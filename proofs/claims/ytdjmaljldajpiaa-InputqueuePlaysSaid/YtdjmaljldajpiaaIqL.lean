/-
  WHAT IS PROVED HERE: the laws' helper lives holds. No condition.
-/
import Derived.Test.YtdjmaljldajpiaaIqK
namespace Go.Proofs.Ytdjmaljldajpiaa
set_option linter.unusedVariables false
open Go.ChangeShapes Go.WideShapes Go.ChangeAt Go.RowKit
open Go.Maps (Keyed)

def lA : QS := stepQ 1 s0
def lB : QS := offS 1 2 0 1 (1, 0, 2) lA
def lC : QS := stepQ 1 lB
theorem l1 : adv 1 2 1 s0 = s0 := adv_stop (by decide)
theorem l2 : adv 1 2 2 s0 = lA := (adv_step (by decide) (by decide)).trans (adv_stop (by decide))
theorem l3 : offerE 1 lA.2.length lA.1 2 0 1 (1, 0, 2) = 0 := by decide
theorem lB_eq : lB = ⟨offerP lA.1 0 1 (1, 0, 2), lA.2⟩ := by
  unfold lB offS
  rw [if_pos l3]
theorem l4 : adv 1 2 2 lB = lC := by
  refine (adv_step ?_ ?_).trans (adv_stop ?_)
  · rw [lB_eq]; decide
  · rw [lB_eq]; decide
  · rw [lB_eq]; decide
theorem lA_len : lA.2.length = 1 := by decide
theorem lC_len : lC.2.length = 2 := by unfold lC; rw [stepQ_len, lB_eq]; decide
theorem lB_len : lB.2.length = 1 := by rw [lB_eq]; decide
theorem lA_row : ∃ r, lA.2[0]? = some r ∧ firstI 1 r = [(0, 0, 0)] ∧ firstB 1 r = [true] := ⟨_, rfl, rfl, rfl⟩
theorem lC_row : ∃ r, lC.2[1]? = some r ∧ firstI 1 r = [(1, 0, 2)] ∧ firstB 1 r = [false] := by
  unfold lC
  rw [lB_eq]
  exact ⟨_, rfl, rfl, rfl⟩
theorem i64_small {x : Int} (h1 : -1000000 ≤ x) (h2 : x ≤ 1000000) : I64 x := by unfold I64; omega

set_option maxRecDepth 100000 in
set_option maxHeartbeats 1000000 in
theorem lives_any (w : World) : Calls Try.prog 19 #[] w fun e w' => e = .returned (.bool true) ∧ Below w.heap.size w w' := by
  go_enter Try.func19, Try.ntmps19
  go_wp2_with fail
  refine (new_q 1 2 _ (by omega) (by omega) (by omega)).mono ?_
  rintro e w1 ⟨p, b, rfl, hI1, hF1, hb1⟩
  have H1 := Lib.hid (And.intro hI1 hF1)
  clear hI1 hF1
  go_wp2_with fail
  refine (advance_q p b none 1 2 0 s0 _ 1 s0 0 H1.out.1 l1 rfl (i64_small (by omega) (by omega)) (by omega) (by omega) (by decide)).mono ?_
  rintro e w2 ⟨rfl, g2, hI2, m2⟩
  have H2 := Lib.hid (And.intro hI2 m2)
  clear hI2 m2
  go_wp2_with fail
  refine (advance_q p b g2 1 2 0 s0 _ 2 lA 1 H2.out.1 l2 (by rw [lA_len]; rfl) (i64_small (by omega) (by omega)) (by omega) (by omega) (by decide)).mono ?_
  rintro e w3 ⟨rfl, g3, hI3, m3⟩
  have H3 := Lib.hid (And.intro hI3 m3)
  clear hI3 m3
  go_wp2_with fail
  obtain ⟨r1, hr1, hr2, hr3⟩ := lA_row
  refine (fixed_q p b g3 1 2 0 lA _ 0 r1 _ _ H3.out.1 hr1 hr2 hr3 (by omega) (by rw [lA_len]; omega)).mono ?_
  rintro e w4 ⟨A1, c1, A2, c2, rfl, o1, o2, hb4⟩
  have H4 := Lib.hid (H3.out.1.below hb4)
  have R1 := Lib.hid (OwnA.new H3.out.1 o1).rd
  have R2 := Lib.hid (OwnA.new H3.out.1 o2).rd
  have M4 := Lib.hid ((H2.out.2.trans H3.out.2).then hb4)
  clear o1 o2 hr1 hr2 hr3 hb4
  go_wp2_with fail
  refine (offer_q p b g3 1 2 0 lA _ 2 0 1 1 0 2 lB 0 H4.out rfl l3 (i64_small (by omega) (by omega)) (i64_small (by omega) (by omega)) (i64_small (by omega) (by omega)) (by omega) (by rw [lA_len]; omega) (by omega)).mono ?_
  rintro e w5 ⟨rfl, hI5, m5⟩
  have H5 := Lib.hid (And.intro hI5 m5)
  clear hI5 m5
  go_wp2_with fail
  refine (advance_q p b g3 1 2 1 lB _ 2 lC 1 H5.out.1 l4 (by rw [lB_len, lC_len]; rfl) (i64_small (by omega) (by omega)) (by omega) (by omega) (by rw [lB_len]; omega)).mono ?_
  rintro e w6 ⟨rfl, g6, hI6, m6⟩
  have H6 := Lib.hid (And.intro hI6 m6)
  clear hI6 m6
  go_wp2_with fail
  obtain ⟨r1, hr1, hr2, hr3⟩ := lC_row
  refine (fixed_q p b g6 1 2 1 lC _ 1 r1 _ _ H6.out.1 hr1 hr2 hr3 (by omega) (by rw [lC_len]; omega)).mono ?_
  rintro e w7 ⟨A3, c3, A4, c4, rfl, o1, o2, hb7⟩
  have R3 := Lib.hid (OwnA.new H6.out.1 o1).rd
  have R4 := Lib.hid (OwnA.new H6.out.1 o2).rd
  have M7 := Lib.hid ((H5.out.2.trans H6.out.2).then hb7)
  have R1' := Lib.hid (R1.out.mv M7.out)
  have R2' := Lib.hid (R2.out.mv M7.out)
  have HB := Lib.hid ((M4.out.trans M7.out).belowB hb1.size H1.out.2).1
  clear o1 o2 hr1 hr2 hr3 hb7 R1 R2
  obtain ⟨b1, q1, e1, rfl, f1, z10, z11, z12⟩ := R1'.out.1.openRow (k := 0) (by omega)
  obtain ⟨b2, q2, e2, rfl, f2, z2⟩ := R2'.out.1.openMap (k := 0) (by omega)
  obtain ⟨b3, q3, e3, rfl, f3, z30, z31, z32⟩ := R3.out.1.openRow (k := 0) (by omega)
  obtain ⟨b4, q4, e4, rfl, f4, z4⟩ := R4.out.1.openMap (k := 0) (by omega)
  simp only [List.getElem_cons_zero, Nat.zero_mul, Nat.add_zero] at z10 z11 z12 z2 z30 z31 z32 z4
  have n1 := fun W => run_eql3 0 0 0 0 0 0 W
  have n2 := fun W => run_eql3 1 0 2 1 0 2 W
  rw [show eqInp (0, 0, 0) (0, 0, 0) = true from by decide] at n1
  rw [show eqInp (1, 0, 2) (1, 0, 2) = true from by decide] at n2
  go_wp2
  go_ret
  exact ⟨rfl, hb1.trans HB.out⟩
end Go.Proofs.Ytdjmaljldajpiaa
