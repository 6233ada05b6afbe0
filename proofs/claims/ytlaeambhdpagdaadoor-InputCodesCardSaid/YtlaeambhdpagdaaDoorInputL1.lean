/-
  WHAT IS PROVED HERE: the walks of the laws InputCodes, InputValidates, InputBijection, InputPredicts: each returns true at every input, and leaves old memory as it was.
-/
import Derived.Test.YtlaeambhdpagdaaDoorInputT
namespace Go.Proofs.YtlaeambhdpagdaaDoor
set_option linter.unusedVariables false
open Go.ChangeShapes Go.WideShapes Go.ChangeAt Go.RowKit

def eqInp (x y : Inp) : Bool := decide (x = y)
theorem eqInp_self (x : Inp) : eqInp x x = true := by simp [eqInp]
theorem run_equalIn_inp (x y : Inp) (w : World) : (Op.equalIn 10000 23 (inp x) (inp y)).run Tryd.prog w = .ok (eqInp x y) w := by
  have h : (Op.equalIn 10000 23 (inp x) (inp y)).run Tryd.prog w = .ok (x.1 == y.1 && (x.2.1 == y.2.1 && x.2.2 == y.2.2)) w := by
    go_simp
    by_cases h1 : x.1 = y.1 <;> by_cases h2 : x.2.1 = y.2.1 <;> by_cases h3 : x.2.2 = y.2.2 <;> simp [h1, h2, h3]
  rw [h]
  obtain ⟨a, b, c⟩ := x
  obtain ⟨a', b', c'⟩ := y
  congr 1
  rw [eqInp, Bool.eq_iff_iff]
  simp
theorem run_eql_inp (x y : Inp) (w : World) : (binOp .eql 23 (inp x) (inp y)).run Tryd.prog w = .ok (.bool (eqInp x y)) w := by
  simp only [binOp]
  simp [Op.equal, Op.maxDepth, run_equalIn_inp x y w]
theorem run_neq_inp (x y : Inp) (w : World) : (binOp .neq 23 (inp x) (inp y)).run Tryd.prog w = .ok (.bool (!eqInp x y)) w := by
  simp only [binOp]
  simp [Op.equal, Op.maxDepth, run_equalIn_inp x y w]

/-- block b holds the input x -/
def InpAt (w : World) (b : Nat) (x : Inp) : Prop := b < w.heap.size ∧ w.cell? ⟨b, 0, none⟩ = some (.int .i64 x.1) ∧ w.cell? ⟨b, 1, none⟩ = some (.int .i64 x.2.1) ∧ w.cell? ⟨b, 2, none⟩ = some (.int .i64 x.2.2)
theorem InpAt.new (w : World) (x : Inp) (t : TypeId) : InpAt (w.alloc (.cells #[.int .i64 x.1, .int .i64 x.2.1, .int .i64 x.2.2] t)) w.heap.size x :=
  ⟨by simp, by rw [World.cell?_alloc_at _ _ _ _ rfl]; rfl, by rw [World.cell?_alloc_at _ _ _ _ rfl]; rfl, by rw [World.cell?_alloc_at _ _ _ _ rfl]; rfl⟩
theorem InpAt.keep {w w' : World} {b : Nat} {x : Inp} (h : InpAt w b x) (hb : Below w.heap.size w w') : InpAt w' b x :=
  ⟨Nat.lt_of_lt_of_le h.1 hb.size, cell_keep hb h.2.1, cell_keep hb h.2.2.1, cell_keep hb h.2.2.2⟩
theorem InpAt.alloc {w : World} {b : Nat} {x : Inp} (h : InpAt w b x) (o : Obj) : InpAt (w.alloc o) b x := h.keep (b_alloc (Below.refl _ _) o)

set_option maxHeartbeats 400000 in
theorem codes_walk (b n : Int) (w : World) (h0 : 0 ≤ b) (h : b ≤ 255) (h1 : -9223372036854775808 ≤ n) (h2 : n ≤ 9223372036854775807) (hT : Tab w) :
    Calls Tryd.prog 3 #[.int .u8 b, .int .i64 n] w fun e w' => e = .returned (.bool true) ∧ Below w.heap.size w w' := by
  have he := fun W x y => run_eql_inp x y W
  go_enter Tryd.func3, Tryd.ntmps3
  go_wp2_with (first
    | (go_at_call 10; refine (decode_any _ _ h0 h hT).mono ?_; rintro e w1 ⟨rfl, hb1⟩)
    | (go_at_call 11; refine (refdec_any _ _ h0 h).mono ?_; rintro e w2 ⟨rfl, hb2⟩)
    | (go_at_call 12; refine (of_any _ _ h1 h2).mono ?_; rintro e w3 ⟨rfl, hb3⟩))
  have i1 := (((InpAt.new w1 (decI b) 23).keep hb2).alloc (.cells #[.int .i64 (decI b).1, .int .i64 (decI b).2.1, .int .i64 (decI b).2.2] 23)).keep hb3 |>.alloc (.cells #[.int .i64 (inpOf n).1, .int .i64 (inpOf n).2.1, .int .i64 (inpOf n).2.2] 23)
  have i2 := ((InpAt.new w2 (decI b) 23).keep hb3).alloc (.cells #[.int .i64 (inpOf n).1, .int .i64 (inpOf n).2.1, .int .i64 (inpOf n).2.2] 23)
  have i3 := InpAt.new w3 (inpOf n) 23
  have hB : Below w.heap.size w (w3.alloc (.cells #[.int .i64 (inpOf n).1, .int .i64 (inpOf n).2.1, .int .i64 (inpOf n).2.2] 23)) := by (repeat (first | (with_reducible exact Below.refl _ _) | (with_reducible assumption) | (with_reducible refine b_drew ?_) | (with_reducible refine b_drewN ?_ _) | (with_reducible refine b_alloc ?_ _) | ((with_reducible refine b_set ?_ ?_ _); rotate_left; (focus (first | omega | (simp; done) | (simp; omega) | (simp at *; omega)))) | (with_reducible refine b_call ?_ (by with_reducible assumption))))
  generalize w3.alloc (.cells #[.int .i64 (inpOf n).1, .int .i64 (inpOf n).2.1, .int .i64 (inpOf n).2.2] 23) = X at *
  obtain ⟨l1, c10, c11, c12⟩ := i1
  obtain ⟨l2, c20, c21, c22⟩ := i2
  obtain ⟨l3, c30, c31, c32⟩ := i3
  have e1 := eqInp_self (decI b)
  clear hb1 hb2 hb3
  go_region_held3 (fun w' => (∀ b o, b < X.heap.size → w'.cell? ⟨b, o, none⟩ = X.cell? ⟨b, o, none⟩) ∧ Below X.heap.size X w') (first | exact still_call (by assumption) (by assumption) | exact still_drew0 _ | exact still_drew (by assumption) | exact still_alloc (by assumption) _) (first
    | (go_at_call 13; refine (encode_any _ _ (inpOf_val n)).mono ?_; rintro e w4 ⟨rfl, hb4⟩)
    | (go_at_call 14; refine (refencode_any _ _ (inpOf_val n)).mono ?_; rintro e w5 ⟨rfl, hb5⟩)
    | (go_at_call 15; refine (lives_any _).mono ?_; rintro e w6 ⟨rfl, hb6⟩))
  go_wp2
  go_ret
  exact ⟨rfl, by (repeat (first | (with_reducible exact Below.refl _ _) | (with_reducible assumption) | (with_reducible refine b_drew ?_) | (with_reducible refine b_drewN ?_ _) | (with_reducible refine b_alloc ?_ _) | ((with_reducible refine b_set ?_ ?_ _); rotate_left; (focus (first | omega | (simp; done) | (simp; omega) | (simp at *; omega)))) | (with_reducible refine b_call ?_ (by with_reducible assumption))))⟩
end Go.Proofs.YtlaeambhdpagdaaDoor
