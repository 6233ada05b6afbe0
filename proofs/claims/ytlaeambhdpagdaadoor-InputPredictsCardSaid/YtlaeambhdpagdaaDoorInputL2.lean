/-
  WHAT IS PROVED HERE: the walks of the laws InputValidates, InputBijection, InputPredicts: each returns true at every input, and leaves old memory as it was.
-/
import Derived.Test.YtlaeambhdpagdaaDoorInputL1
namespace Go.Proofs.YtlaeambhdpagdaaDoor
set_option linter.unusedVariables false
open Go.ChangeShapes Go.WideShapes Go.ChangeAt Go.RowKit

set_option maxHeartbeats 1000000 in
theorem validates_walk (x : Inp) (n f y : Int) (w : World) (hn : -9223372036854775808 ≤ n ∧ n ≤ 9223372036854775807) (hf : -9223372036854775808 ≤ f ∧ f ≤ 9223372036854775807) (hy : -9223372036854775808 ≤ y ∧ y ≤ 9223372036854775807) :
    Calls Tryd.prog 4 #[inp x, .int .i64 n, .int .i64 f, .int .i64 y] w fun e w' => e = .returned (.bool true) ∧ Below w.heap.size w w' := by
  have h9 := around_bd y 9 (by omega)
  have h3 := around_bd f 3 (by omega)
  have hv0 : vcode ((inpOf n).1, (inpOf n).2.1, (inpOf n).2.2) = 0 := vcode_yes (inpOf_val n)
  have cases3 : around f 3 = 0 ∨ around f 3 = 1 ∨ around f 3 = 2 := by omega
  have t0 := Lib.hid cases3
  clear cases3
  rcases t0.out with e | e | e
  · have q : (around f 3 == 0) = true := by rw [e]; rfl
    have E := Lib.hid e
    clear e t0
    go_enter Tryd.func4, Tryd.ntmps4
    go_wp2_with (first
      | (go_at_call 12; refine (of_any _ _ hn.1 hn.2).mono ?_; rintro e w1 ⟨rfl, hb1⟩)
      | (go_at_call 16; refine (validate3 _ _ _ _).mono ?_; rintro e w2 ⟨rfl, hb2⟩; obtain ⟨l1, c1, f1⟩ := ((Vr.new w1 _ _).call hb2).facts)
      | (go_at_call 17; refine (around_any _ _ _ (by omega) (by omega) (by omega) (by omega)).mono ?_; rintro e w' ⟨rfl, rfl⟩))
    refine name_world ?_
    intro X hX
    have V0 : Vr X w.heap.size _ _ := hX ▸ (((((Vr.new w _ _).call hb1).alloc _).call hb2).far (by have := hb1.size; simp at this ⊢; omega) _)
    have V1 : Vr X w1.heap.size _ _ := hX ▸ ((((Vr.new w1 _ _).call hb2).set 0 _))
    have hz : w.heap.size ≤ w1.heap.size := by have := hb1.size; simp at this ⊢; omega
    have hB : Below w.heap.size w X := by rw [hX]; (repeat (first | (with_reducible exact Below.refl _ _) | (with_reducible assumption) | (with_reducible refine b_drew ?_) | (with_reducible refine b_drewN ?_ _) | (with_reducible refine b_alloc ?_ _) | ((with_reducible refine b_set ?_ ?_ _); rotate_left; (focus (first | omega | (simp; done) | (simp; omega) | (simp at *; omega)))) | (with_reducible refine b_call ?_ (by with_reducible assumption))))
    clear hX hb1 hb2 q l1 c1 f1 hz
    obtain ⟨l0, c0, f0⟩ := V0.facts
    obtain ⟨l1, c1, f1⟩ := V1.facts
    clear V0 V1 f0 f1
    go_region_held3 (fun w' => (∀ b o, b < X.heap.size → w'.cell? ⟨b, o, none⟩ = X.cell? ⟨b, o, none⟩) ∧ Below X.heap.size X w') (first | exact still_call (by assumption) (by assumption) | exact still_drew0 _ | exact still_drew (by assumption) | exact still_alloc (by assumption) _) (first
      | (go_at_call 16; refine (validate3 _ _ _ _).mono ?_; rintro e w4 ⟨rfl, hb4⟩)
      | (go_at_call 18; refine (refvalidate3 _ _ _ _).mono ?_; rintro e w5 ⟨rfl, hb5⟩)
      | (go_at_call 15; refine (lives_any _).mono ?_; rintro e w6 ⟨rfl, hb6⟩))
    go_wp2
    go_ret
    exact ⟨rfl, by (repeat (first | (with_reducible exact Below.refl _ _) | (with_reducible assumption) | (with_reducible refine b_drew ?_) | (with_reducible refine b_drewN ?_ _) | (with_reducible refine b_alloc ?_ _) | ((with_reducible refine b_set ?_ ?_ _); rotate_left; (focus (first | omega | (simp; done) | (simp; omega) | (simp at *; omega)))) | (with_reducible refine b_call ?_ (by with_reducible assumption))))⟩
  · have q : (around f 3 == 0) = false := by rw [e]; rfl
    have q1 : (around f 3 == 1) = true := by rw [e]; rfl
    have E := Lib.hid e
    clear e t0
    go_enter Tryd.func4, Tryd.ntmps4
    go_wp2_with (first
      | (go_at_call 12; refine (of_any _ _ hn.1 hn.2).mono ?_; rintro e w1 ⟨rfl, hb1⟩)
      | (go_at_call 16; refine (validate3 _ _ _ _).mono ?_; rintro e w2 ⟨rfl, hb2⟩; obtain ⟨l1, c1, f1⟩ := ((Vr.new w1 _ _).call hb2).facts)
      | (go_at_call 17; refine (around_any _ _ _ (by omega) (by omega) (by omega) (by omega)).mono ?_; rintro e w' ⟨rfl, rfl⟩))
    refine name_world ?_
    intro X hX
    have V0 : Vr X w.heap.size _ _ := hX ▸ (((((Vr.new w _ _).call hb1).alloc _).call hb2).far (by have := hb1.size; simp at this ⊢; omega) _)
    have V1 : Vr X w1.heap.size _ _ := hX ▸ ((((Vr.new w1 _ _).call hb2).set 1 _))
    have hz : w.heap.size ≤ w1.heap.size := by have := hb1.size; simp at this ⊢; omega
    have hB : Below w.heap.size w X := by rw [hX]; (repeat (first | (with_reducible exact Below.refl _ _) | (with_reducible assumption) | (with_reducible refine b_drew ?_) | (with_reducible refine b_drewN ?_ _) | (with_reducible refine b_alloc ?_ _) | ((with_reducible refine b_set ?_ ?_ _); rotate_left; (focus (first | omega | (simp; done) | (simp; omega) | (simp at *; omega)))) | (with_reducible refine b_call ?_ (by with_reducible assumption))))
    clear hX hb1 hb2 q q1 l1 c1 f1 hz
    obtain ⟨l0, c0, f0⟩ := V0.facts
    obtain ⟨l1, c1, f1⟩ := V1.facts
    clear V0 V1 f0 f1
    go_region_held3 (fun w' => (∀ b o, b < X.heap.size → w'.cell? ⟨b, o, none⟩ = X.cell? ⟨b, o, none⟩) ∧ Below X.heap.size X w') (first | exact still_call (by assumption) (by assumption) | exact still_drew0 _ | exact still_drew (by assumption) | exact still_alloc (by assumption) _) (first
      | (go_at_call 16; refine (validate3 _ _ _ _).mono ?_; rintro e w4 ⟨rfl, hb4⟩)
      | (go_at_call 18; refine (refvalidate3 _ _ _ _).mono ?_; rintro e w5 ⟨rfl, hb5⟩)
      | (go_at_call 15; refine (lives_any _).mono ?_; rintro e w6 ⟨rfl, hb6⟩))
    go_wp2
    go_ret
    exact ⟨rfl, by (repeat (first | (with_reducible exact Below.refl _ _) | (with_reducible assumption) | (with_reducible refine b_drew ?_) | (with_reducible refine b_drewN ?_ _) | (with_reducible refine b_alloc ?_ _) | ((with_reducible refine b_set ?_ ?_ _); rotate_left; (focus (first | omega | (simp; done) | (simp; omega) | (simp at *; omega)))) | (with_reducible refine b_call ?_ (by with_reducible assumption))))⟩
  · have q : (around f 3 == 0) = false := by rw [e]; rfl
    have q1 : (around f 3 == 1) = false := by rw [e]; rfl
    have E := Lib.hid e
    clear e t0
    go_enter Tryd.func4, Tryd.ntmps4
    go_wp2_with (first
      | (go_at_call 12; refine (of_any _ _ hn.1 hn.2).mono ?_; rintro e w1 ⟨rfl, hb1⟩)
      | (go_at_call 16; refine (validate3 _ _ _ _).mono ?_; rintro e w2 ⟨rfl, hb2⟩; obtain ⟨l1, c1, f1⟩ := ((Vr.new w1 _ _).call hb2).facts)
      | (go_at_call 17; refine (around_any _ _ _ (by omega) (by omega) (by omega) (by omega)).mono ?_; rintro e w' ⟨rfl, rfl⟩))
    refine name_world ?_
    intro X hX
    have V0 : Vr X w.heap.size _ _ := hX ▸ (((((Vr.new w _ _).call hb1).alloc _).call hb2).far (by have := hb1.size; simp at this ⊢; omega) _)
    have V1 : Vr X w1.heap.size _ _ := hX ▸ ((((Vr.new w1 _ _).call hb2).set 2 _))
    have hz : w.heap.size ≤ w1.heap.size := by have := hb1.size; simp at this ⊢; omega
    have hB : Below w.heap.size w X := by rw [hX]; (repeat (first | (with_reducible exact Below.refl _ _) | (with_reducible assumption) | (with_reducible refine b_drew ?_) | (with_reducible refine b_drewN ?_ _) | (with_reducible refine b_alloc ?_ _) | ((with_reducible refine b_set ?_ ?_ _); rotate_left; (focus (first | omega | (simp; done) | (simp; omega) | (simp at *; omega)))) | (with_reducible refine b_call ?_ (by with_reducible assumption))))
    clear hX hb1 hb2 q q1 l1 c1 f1 hz
    obtain ⟨l0, c0, f0⟩ := V0.facts
    obtain ⟨l1, c1, f1⟩ := V1.facts
    clear V0 V1 f0 f1
    go_region_held3 (fun w' => (∀ b o, b < X.heap.size → w'.cell? ⟨b, o, none⟩ = X.cell? ⟨b, o, none⟩) ∧ Below X.heap.size X w') (first | exact still_call (by assumption) (by assumption) | exact still_drew0 _ | exact still_drew (by assumption) | exact still_alloc (by assumption) _) (first
      | (go_at_call 16; refine (validate3 _ _ _ _).mono ?_; rintro e w4 ⟨rfl, hb4⟩)
      | (go_at_call 18; refine (refvalidate3 _ _ _ _).mono ?_; rintro e w5 ⟨rfl, hb5⟩)
      | (go_at_call 15; refine (lives_any _).mono ?_; rintro e w6 ⟨rfl, hb6⟩))
    go_wp2
    go_ret
    exact ⟨rfl, by (repeat (first | (with_reducible exact Below.refl _ _) | (with_reducible assumption) | (with_reducible refine b_drew ?_) | (with_reducible refine b_drewN ?_ _) | (with_reducible refine b_alloc ?_ _) | ((with_reducible refine b_set ?_ ?_ _); rotate_left; (focus (first | omega | (simp; done) | (simp; omega) | (simp at *; omega)))) | (with_reducible refine b_call ?_ (by with_reducible assumption))))⟩

set_option maxHeartbeats 1000000 in
theorem bijection_walk (n m b : Int) (w : World) (hn : -9223372036854775808 ≤ n ∧ n ≤ 9223372036854775807) (hm : -9223372036854775808 ≤ m ∧ m ≤ 9223372036854775807) (h0 : 0 ≤ b) (hb : b ≤ 255) (hT : Tab w) :
    Calls Tryd.prog 5 #[.int .i64 n, .int .i64 m, .int .u8 b] w fun e w' => e = .returned (.bool true) ∧ Below w.heap.size w w' := by
  have he := fun W a b c a' b' c' => run_eql3 a b c a' b' c' W
  have hne := fun W a b c a' b' c' => run_neq3 a b c a' b' c' W
  have vx : Val ((inpOf n).1, (inpOf n).2.1, (inpOf n).2.2) := inpOf_val n
  have vy : Val ((inpOf m).1, (inpOf m).2.1, (inpOf m).2.2) := inpOf_val m
  have e1 : eqInp ((inpOf n).1, (inpOf n).2.1, (inpOf n).2.2) ((inpOf n).1, (inpOf n).2.1, (inpOf n).2.2) = true := eqInp_self _
  have e0 : eqInp (0, 0, 0) (0, 0, 0) = true := eqInp_self _
  have hq : ∃ q : Bool, (code ((inpOf n).1, (inpOf n).2.1, (inpOf n).2.2) == code ((inpOf m).1, (inpOf m).2.1, (inpOf m).2.2)) = q ∧ eqInp ((inpOf n).1, (inpOf n).2.1, (inpOf n).2.2) ((inpOf m).1, (inpOf m).2.1, (inpOf m).2.2) = q := by
    refine ⟨_, rfl, ?_⟩
    by_cases h : inpOf n = inpOf m
    · rw [h]
      simp [eqInp]
    · have h1 : ¬ code (inpOf n) = code (inpOf m) := fun e => h (code_inj vx vy e)
      have h2 : eqInp (inpOf n) (inpOf m) = false := by simp [eqInp, h]
      show eqInp (inpOf n) (inpOf m) = (code (inpOf n) == code (inpOf m))
      rw [h2, beq_eq_false_iff_ne.2 h1]
  obtain ⟨q, q1, q2⟩ := hq
  have hv0 : b ≤ 35 → vcode ((dec b).1, (dec b).2.1, (dec b).2.2) = 0 := fun h => vcode_yes (dec_val h0 h)
  by_cases hb35 : b ≤ 35
  · have hv := hv0 hb35
    clear hv0
    have tt := Lib.hid hT
    cases q
    all_goals
    go_enter Tryd.func5, Tryd.ntmps5
    go_wp2_with fail
    refine (of_any n _ hn.1 hn.2).mono ?_
    rintro e w1 ⟨rfl, hb1⟩
    go_wp2_with fail
    refine (of_any m _ hm.1 hm.2).mono ?_
    rintro e w2 ⟨rfl, hb2⟩
    have hz1 : w1.heap.size < w2.heap.size := by have := hb2.size; simp at this; omega
    obtain ⟨l1, c1, f1⟩ := ((Vr.new w1 _ _).call hb2).facts
    go_wp2_with fail
    refine (encode3 _ _ _ _ vx).mono ?_
    rintro e w3 ⟨rfl, hb3⟩
    have l23 : w2.heap.size < w3.heap.size := by have := hb3.size; simp at this; omega
    have hT3 : Tab w3 := hT.below (by (repeat (first | (with_reducible exact Below.refl _ _) | (with_reducible assumption) | (with_reducible refine b_drew ?_) | (with_reducible refine b_drewN ?_ _) | (with_reducible refine b_alloc ?_ _) | ((with_reducible refine b_set ?_ ?_ _); rotate_left; (focus (first | omega | (simp; done) | (simp; omega) | (simp at *; omega)))) | (with_reducible refine b_call ?_ (by with_reducible assumption)))))
    have hT4 := Lib.hid hT3
    clear hT3
    go_wp2_with fail
    refine (decode_code3 _ _ _ _ vx hT4.out).mono ?_
    rintro e w4 ⟨rfl, hb4⟩
    go_wp2_with fail
    refine name_world ?_
    intro X hX
    have V1 : Vr X w1.heap.size _ _ := hX ▸ (((((Vr.new w1 _ _).call hb2).alloc _).call hb3).call hb4).alloc _
    have V2 : Vr X w2.heap.size _ _ := hX ▸ (((Vr.new w2 _ _).call hb3).call hb4).alloc _
    have V4 : Vr X w4.heap.size _ _ := hX ▸ (Vr.new w4 _ _)
    have hB : Below w.heap.size w X := by rw [hX]; (repeat (first | (with_reducible exact Below.refl _ _) | (with_reducible assumption) | (with_reducible refine b_drew ?_) | (with_reducible refine b_drewN ?_ _) | (with_reducible refine b_alloc ?_ _) | ((with_reducible refine b_set ?_ ?_ _); rotate_left; (focus (first | omega | (simp; done) | (simp; omega) | (simp at *; omega)))) | (with_reducible refine b_call ?_ (by with_reducible assumption))))
    have hTX : Tab X := tt.out.below hB
    have hTH := Lib.hid hTX
    clear hX hb1 hb2 hb3 hb4 hT4 l1 c1 f1 hTX hT l23 hz1
    obtain ⟨l1, c1, f1⟩ := V1.facts
    obtain ⟨l2, c2, f2⟩ := V2.facts
    obtain ⟨l4, c4, f4⟩ := V4.facts
    clear f1 f2 f4
    go_region_held3 (fun w' => (∀ b o, b < X.heap.size → w'.cell? ⟨b, o, none⟩ = X.cell? ⟨b, o, none⟩) ∧ Below X.heap.size X w') (first | exact still_call (by assumption) (by assumption) | exact still_drew0 _ | exact still_drew (by assumption) | exact still_alloc (by assumption) _) (first
      | (go_at_call 13; refine (encode3 _ _ _ _ ?_).mono ?_; (first | with_reducible exact vx | with_reducible exact vy); rintro e w5 ⟨rfl, hb5⟩))
    go_wp2_with fail
    refine (decode_yes' b _ h0 hb35 (tt.out.below (by (repeat (first | (with_reducible exact Below.refl _ _) | (with_reducible assumption) | (with_reducible refine b_drew ?_) | (with_reducible refine b_drewN ?_ _) | (with_reducible refine b_alloc ?_ _) | ((with_reducible refine b_set ?_ ?_ _); rotate_left; (focus (first | omega | (simp; done) | (simp; omega) | (simp at *; omega)))) | (with_reducible refine b_call ?_ (by with_reducible assumption))))))).mono ?_
    rintro e w7 ⟨rfl, hb7⟩
    go_wp2_with fail
    refine (validate3 _ _ _ _).mono ?_
    rintro e w8 ⟨rfl, hb8⟩
    obtain ⟨l7, c7, f7⟩ := ((Vr.new w7 _ _).call hb8).facts
    go_wp2_with fail
    refine (encode_dec3 b _ h0 hb35).mono ?_
    rintro e w9 ⟨rfl, hb9⟩
    go_wp2_with fail
    refine (lives_any _).mono ?_
    rintro e w10 ⟨rfl, hb10⟩
    go_wp2
    go_ret
    exact ⟨rfl, by (repeat (first | (with_reducible exact Below.refl _ _) | (with_reducible assumption) | (with_reducible refine b_drew ?_) | (with_reducible refine b_drewN ?_ _) | (with_reducible refine b_alloc ?_ _) | ((with_reducible refine b_set ?_ ?_ _); rotate_left; (focus (first | omega | (simp; done) | (simp; omega) | (simp at *; omega)))) | (with_reducible refine b_call ?_ (by with_reducible assumption))))⟩
  · have hv : (35 : Int) < b := by omega
    clear hv0
    have tt := Lib.hid hT
    cases q
    all_goals
    go_enter Tryd.func5, Tryd.ntmps5
    go_wp2_with fail
    refine (of_any n _ hn.1 hn.2).mono ?_
    rintro e w1 ⟨rfl, hb1⟩
    go_wp2_with fail
    refine (of_any m _ hm.1 hm.2).mono ?_
    rintro e w2 ⟨rfl, hb2⟩
    have hz1 : w1.heap.size < w2.heap.size := by have := hb2.size; simp at this; omega
    obtain ⟨l1, c1, f1⟩ := ((Vr.new w1 _ _).call hb2).facts
    go_wp2_with fail
    refine (encode3 _ _ _ _ vx).mono ?_
    rintro e w3 ⟨rfl, hb3⟩
    have l23 : w2.heap.size < w3.heap.size := by have := hb3.size; simp at this; omega
    have hT3 : Tab w3 := hT.below (by (repeat (first | (with_reducible exact Below.refl _ _) | (with_reducible assumption) | (with_reducible refine b_drew ?_) | (with_reducible refine b_drewN ?_ _) | (with_reducible refine b_alloc ?_ _) | ((with_reducible refine b_set ?_ ?_ _); rotate_left; (focus (first | omega | (simp; done) | (simp; omega) | (simp at *; omega)))) | (with_reducible refine b_call ?_ (by with_reducible assumption)))))
    have hT4 := Lib.hid hT3
    clear hT3
    go_wp2_with fail
    refine (decode_code3 _ _ _ _ vx hT4.out).mono ?_
    rintro e w4 ⟨rfl, hb4⟩
    go_wp2_with fail
    refine name_world ?_
    intro X hX
    have V1 : Vr X w1.heap.size _ _ := hX ▸ (((((Vr.new w1 _ _).call hb2).alloc _).call hb3).call hb4).alloc _
    have V2 : Vr X w2.heap.size _ _ := hX ▸ (((Vr.new w2 _ _).call hb3).call hb4).alloc _
    have V4 : Vr X w4.heap.size _ _ := hX ▸ (Vr.new w4 _ _)
    have hB : Below w.heap.size w X := by rw [hX]; (repeat (first | (with_reducible exact Below.refl _ _) | (with_reducible assumption) | (with_reducible refine b_drew ?_) | (with_reducible refine b_drewN ?_ _) | (with_reducible refine b_alloc ?_ _) | ((with_reducible refine b_set ?_ ?_ _); rotate_left; (focus (first | omega | (simp; done) | (simp; omega) | (simp at *; omega)))) | (with_reducible refine b_call ?_ (by with_reducible assumption))))
    have hTX : Tab X := tt.out.below hB
    have hTH := Lib.hid hTX
    clear hX hb1 hb2 hb3 hb4 hT4 l1 c1 f1 hTX hT l23 hz1
    obtain ⟨l1, c1, f1⟩ := V1.facts
    obtain ⟨l2, c2, f2⟩ := V2.facts
    obtain ⟨l4, c4, f4⟩ := V4.facts
    clear f1 f2 f4
    go_region_held3 (fun w' => (∀ b o, b < X.heap.size → w'.cell? ⟨b, o, none⟩ = X.cell? ⟨b, o, none⟩) ∧ Below X.heap.size X w') (first | exact still_call (by assumption) (by assumption) | exact still_drew0 _ | exact still_drew (by assumption) | exact still_alloc (by assumption) _) (first
      | (go_at_call 13; refine (encode3 _ _ _ _ ?_).mono ?_; (first | with_reducible exact vx | with_reducible exact vy); rintro e w5 ⟨rfl, hb5⟩))
    go_wp2_with fail
    refine (decode_no b _ (by omega) hb).mono ?_
    rintro e w7 ⟨rfl, hb7⟩
    go_wp2_with fail
    refine (lives_any _).mono ?_
    rintro e w8 ⟨rfl, hb8⟩
    go_wp2
    go_ret
    exact ⟨rfl, by (repeat (first | (with_reducible exact Below.refl _ _) | (with_reducible assumption) | (with_reducible refine b_drew ?_) | (with_reducible refine b_drewN ?_ _) | (with_reducible refine b_alloc ?_ _) | ((with_reducible refine b_set ?_ ?_ _); rotate_left; (focus (first | omega | (simp; done) | (simp; omega) | (simp at *; omega)))) | (with_reducible refine b_call ?_ (by with_reducible assumption))))⟩

set_option maxHeartbeats 8000000 in
theorem predicts_walk (n m : Int) (w : World) (hn : -9223372036854775808 ≤ n ∧ n ≤ 9223372036854775807) (hm : -9223372036854775808 ≤ m ∧ m ≤ 9223372036854775807) :
    Calls Tryd.prog 6 #[.int .i64 n, .int .i64 m] w fun e w' => e = .returned (.bool true) ∧ Below w.heap.size w w' := by
  have he := fun W a b c a' b' c' => run_eql3 a b c a' b' c' W
  have vx := inpOf_val n
  have hv : vcode ((inpOf n).1, (inpOf n).2.1, 0) = 0 := vcode_yes ⟨vx.1, vx.2.1, by simp⟩
  have e1 : eqInp ((inpOf n).1, (inpOf n).2.1, 0) ((inpOf n).1, (inpOf n).2.1, 0) = true := eqInp_self _
  have e0 : eqInp (0, 0, 0) (0, 0, 0) = true := eqInp_self _
  have hq : ∃ q1 q2 : Bool, ((inpOf n).1 == (inpOf m).1) = q1 ∧ ((inpOf n).2.1 == (inpOf m).2.1) = q2 ∧ eqInp ((inpOf n).1, (inpOf n).2.1, 0) ((inpOf m).1, (inpOf m).2.1, 0) = (q1 && q2) := by
    refine ⟨_, _, rfl, rfl, ?_⟩
    rw [eqInp, Bool.eq_iff_iff]
    simp
  clear vx
  obtain ⟨q, r, q1, q2, q3⟩ := hq
  cases q <;> cases r
  all_goals
    simp only [Bool.and_true, Bool.and_false, Bool.true_and, Bool.false_and] at q3
    go_enter Tryd.func6, Tryd.ntmps6
    go_wp2_with fail
    refine (of_any n _ hn.1 hn.2).mono ?_
    rintro e w1 ⟨rfl, hb1⟩
    go_wp2_with fail
    refine (of_any m _ hm.1 hm.2).mono ?_
    rintro e w2 ⟨rfl, hb2⟩
    have hz1 : w1.heap.size < w2.heap.size := by have := hb2.size; simp at this; omega
    obtain ⟨l1, c1, f1⟩ := ((Vr.new w1 _ _).call hb2).facts
    go_wp2_with fail
    refine (predict3 _ _ _ _).mono ?_
    rintro e w3 ⟨rfl, hb3⟩
    have hz2 : w2.heap.size < w3.heap.size := by have := hb3.size; simp at this; omega
    obtain ⟨l1, c1, f1⟩ := ((((Vr.new w1 _ _).call hb2).alloc _).call hb3).facts
    obtain ⟨l2, c2, f2⟩ := ((Vr.new w2 _ _).call hb3).facts
    go_wp2_with fail
    refine name_world ?_
    intro X hX
    have V1 : Vr X w1.heap.size _ _ := hX ▸ ((((Vr.new w1 _ _).call hb2).alloc _).call hb3).alloc _
    have V2 : Vr X w2.heap.size _ _ := hX ▸ ((Vr.new w2 _ _).call hb3).alloc _
    have V3 : Vr X w3.heap.size _ _ := hX ▸ (Vr.new w3 _ _)
    have hB : Below w.heap.size w X := by rw [hX]; (repeat (first | (with_reducible exact Below.refl _ _) | (with_reducible assumption) | (with_reducible refine b_drew ?_) | (with_reducible refine b_drewN ?_ _) | (with_reducible refine b_alloc ?_ _) | ((with_reducible refine b_set ?_ ?_ _); rotate_left; (focus (first | omega | (simp; done) | (simp; omega) | (simp at *; omega)))) | (with_reducible refine b_call ?_ (by with_reducible assumption))))
    clear hX hb1 hb2 hb3 l1 c1 f1 l2 c2 f2 hz1 hz2
    obtain ⟨l1, c1, f1⟩ := V1.facts
    obtain ⟨l2, c2, f2⟩ := V2.facts
    obtain ⟨l3, c3, f3⟩ := V3.facts
    clear f1 f2 f3 V1 V2 V3
    go_region_held3 (fun w' => (∀ b o, b < X.heap.size → w'.cell? ⟨b, o, none⟩ = X.cell? ⟨b, o, none⟩) ∧ Below X.heap.size X w') (first | exact still_call (by assumption) (by assumption) | exact still_drew0 _ | exact still_drew (by assumption) | exact still_alloc (by assumption) _) (first
      | (go_at_call 19; refine (predict3 _ _ _ _).mono ?_; rintro e w4 ⟨rfl, hb4⟩)
      | (go_at_call 16; refine (validate3 _ _ _ _).mono ?_; rintro e w5 ⟨rfl, hb5⟩)
      | (go_at_call 15; refine (lives_any _).mono ?_; rintro e w6 ⟨rfl, hb6⟩))
    go_wp2
    go_ret
    exact ⟨rfl, by (repeat (first | (with_reducible exact Below.refl _ _) | (with_reducible assumption) | (with_reducible refine b_drew ?_) | (with_reducible refine b_drewN ?_ _) | (with_reducible refine b_alloc ?_ _) | ((with_reducible refine b_set ?_ ?_ _); rotate_left; (focus (first | omega | (simp; done) | (simp; omega) | (simp at *; omega)))) | (with_reducible refine b_call ?_ (by with_reducible assumption))))⟩
end Go.Proofs.YtlaeambhdpagdaaDoor
