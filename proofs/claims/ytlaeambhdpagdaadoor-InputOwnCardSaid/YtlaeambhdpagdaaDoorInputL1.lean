/-
  WHAT IS PROVED HERE: the walks of the laws InputCodes, InputValidates, InputBijection, InputPredicts: each returns true at every input, and leaves old memory as it was.
-/
import Derived.Test.YtlaeambhdpagdaaDoorInputT
namespace Go.Proofs.YtlaeambhdpagdaaDoor
set_option linter.unusedVariables false
open Go.ChangeShapes Go.WideShapes Go.ChangeAt Go.RowKit

def eqInp (x y : Inp) : Bool := decide (x = y)
theorem eqInp_self (x : Inp) : eqInp x x = true := by simp [eqInp]
theorem run_equalIn_inp (x y : Inp) (w : World) : (Op.equalIn 10000 23 (inp x) (inp y)).run Tryd.prog w = .ok (eqInp x y) w := by
  have h : (Op.equalIn 10000 23 (inp x) (inp y)).run Tryd.prog w = .ok (x.1 == y.1 && (x.2.1 == y.2.1 && x.2.2 == y.2.2)) w := by
    go_simp
    by_cases h1 : x.1 = y.1 <;> by_cases h2 : x.2.1 = y.2.1 <;> by_cases h3 : x.2.2 = y.2.2 <;> simp [h1, h2, h3]
  rw [h]
  obtain ⟨a, b, c⟩ := x
  obtain ⟨a', b', c'⟩ := y
  congr 1
  rw [eqInp, Bool.eq_iff_iff]
  simp
theorem run_eql_inp (x y : Inp) (w : World) : (binOp .eql 23 (inp x) (inp y)).run Tryd.prog w = .ok (.bool (eqInp x y)) w := by
  simp only [binOp]
  simp [Op.equal, Op.maxDepth, run_equalIn_inp x y w]
theorem run_neq_inp (x y : Inp) (w : World) : (binOp .neq 23 (inp x) (inp y)).run Tryd.prog w = .ok (.bool (!eqInp x y)) w := by
  simp only [binOp]
  simp [Op.equal, Op.maxDepth, run_equalIn_inp x y w]

theorem run_eql3 (a b c a' b' c' : Int) (w : World) : (binOp .eql 23 (.agg #[.int .i64 a, .int .i64 b, .int .i64 c]) (.agg #[.int .i64 a', .int .i64 b', .int .i64 c'])).run Tryd.prog w = .ok (.bool (eqInp (a, b, c) (a', b', c'))) w := run_eql_inp (a, b, c) (a', b', c') w
theorem run_neq3 (a b c a' b' c' : Int) (w : World) : (binOp .neq 23 (.agg #[.int .i64 a, .int .i64 b, .int .i64 c]) (.agg #[.int .i64 a', .int .i64 b', .int .i64 c'])).run Tryd.prog w = .ok (.bool (!eqInp (a, b, c) (a', b', c'))) w := run_neq_inp (a, b, c) (a', b', c') w

set_option maxHeartbeats 400000 in
theorem codes_walk (b n : Int) (w : World) (h0 : 0 ≤ b) (h : b ≤ 255) (h1 : -9223372036854775808 ≤ n) (h2 : n ≤ 9223372036854775807) (hT : Tab w) :
    Calls Tryd.prog 3 #[.int .u8 b, .int .i64 n] w fun e w' => e = .returned (.bool true) ∧ Below w.heap.size w w' := by
  have he := fun W x y => run_eql_inp x y W
  go_enter Tryd.func3, Tryd.ntmps3
  go_wp2_with (first
    | (go_at_call 10; refine (decode_any _ _ h0 h hT).mono ?_; rintro e w1 ⟨rfl, hb1⟩)
    | (go_at_call 11; refine (refdec_any _ _ h0 h).mono ?_; rintro e w2 ⟨rfl, hb2⟩)
    | (go_at_call 12; refine (of_any _ _ h1 h2).mono ?_; rintro e w3 ⟨rfl, hb3⟩))
  refine name_world ?_
  intro X hX
  have V1 : Vr X w1.heap.size _ _ := hX ▸ ((((Vr.new w1 _ _).call hb2).alloc _).call hb3).alloc _
  have V2 : Vr X w2.heap.size _ _ := hX ▸ ((Vr.new w2 _ _).call hb3).alloc _
  have V3 : Vr X w3.heap.size _ _ := hX ▸ (Vr.new w3 _ _)
  have hB : Below w.heap.size w X := by rw [hX]; (repeat (first | (with_reducible exact Below.refl _ _) | (with_reducible assumption) | (with_reducible refine b_drew ?_) | (with_reducible refine b_drewN ?_ _) | (with_reducible refine b_alloc ?_ _) | ((with_reducible refine b_set ?_ ?_ _); rotate_left; (focus (first | omega | (simp; done) | (simp; omega) | (simp at *; omega)))) | (with_reducible refine b_call ?_ (by with_reducible assumption))))
  clear hX hb1 hb2 hb3
  obtain ⟨l1, c1, f1⟩ := V1.facts
  obtain ⟨l2, c2, f2⟩ := V2.facts
  obtain ⟨l3, c3, f3⟩ := V3.facts
  clear V1 V2 V3 f1 f2 f3
  have e1 := eqInp_self (decI b)
  go_region_held3 (fun w' => (∀ b o, b < X.heap.size → w'.cell? ⟨b, o, none⟩ = X.cell? ⟨b, o, none⟩) ∧ Below X.heap.size X w') (first | exact still_call (by assumption) (by assumption) | exact still_drew0 _ | exact still_drew (by assumption) | exact still_alloc (by assumption) _) (first
    | (go_at_call 13; refine (encode_any _ _ (inpOf_val n)).mono ?_; rintro e w4 ⟨rfl, hb4⟩)
    | (go_at_call 14; refine (refencode_any _ _ (inpOf_val n)).mono ?_; rintro e w5 ⟨rfl, hb5⟩)
    | (go_at_call 15; refine (lives_any _).mono ?_; rintro e w6 ⟨rfl, hb6⟩))
  go_wp2
  go_ret
  exact ⟨rfl, by (repeat (first | (with_reducible exact Below.refl _ _) | (with_reducible assumption) | (with_reducible refine b_drew ?_) | (with_reducible refine b_drewN ?_ _) | (with_reducible refine b_alloc ?_ _) | ((with_reducible refine b_set ?_ ?_ _); rotate_left; (focus (first | omega | (simp; done) | (simp; omega) | (simp at *; omega)))) | (with_reducible refine b_call ?_ (by with_reducible assumption))))⟩
end Go.Proofs.YtlaeambhdpagdaaDoor
