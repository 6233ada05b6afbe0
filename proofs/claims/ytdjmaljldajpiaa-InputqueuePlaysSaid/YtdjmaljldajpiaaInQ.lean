/-
  WHAT IS PROVED HERE: contracts of the small functions of package input and of its reference (within, Validate, Decode, Of, Predict). No condition beyond what each theorem states.
-/
import Derived.Test.YtdjmaljldajpiaaAround
namespace Go.Proofs.Ytdjmaljldajpiaa
set_option linter.unusedVariables false
open Go.ChangeShapes Go.WideShapes Go.ChangeAt Go.RowKit

/-! ### Inputs as triples -/
abbrev Inp := Int × Int × Int
def dec (b : Int) : Inp := (b % 3 - 1, b / 3 % 3 - 1, b / 9)
def decI (b : Int) : Inp := if b ≤ 35 then dec b else (0, 0, 0)
def decE (b : Int) : Int := if b ≤ 35 then 0 else 8
@[irreducible] def inpOf (n : Int) : Inp := dec (around n 36)
def code (x : Inp) : Int := x.1 + 1 + 3 * (x.2.1 + 1) + 9 * x.2.2
def Val (x : Inp) : Prop := (-1 ≤ x.1 ∧ x.1 ≤ 1) ∧ (-1 ≤ x.2.1 ∧ x.2.1 ≤ 1) ∧ (0 ≤ x.2.2 ∧ x.2.2 ≤ 3)
instance (x : Inp) : Decidable (Val x) := by unfold Val; infer_instance
def vcode (x : Inp) : Int := if Val x then 0 else 1
theorem vcode_yes {x : Inp} (h : Val x) : vcode x = 0 := if_pos h
theorem vcode_no {x : Inp} (h : ¬ Val x) : vcode x = 1 := if_neg h
theorem dec_val {b : Int} (h0 : 0 ≤ b) (h : b ≤ 35) : Val (dec b) := by unfold Val dec; simp only; omega
theorem inpOf_val (n : Int) : Val (inpOf n) := by
  have := around_bd n 36 (by omega)
  unfold inpOf
  exact dec_val this.1 (by omega)
theorem code_dec {b : Int} (h0 : 0 ≤ b) (h : b ≤ 35) : code (dec b) = b := by unfold code dec; simp only; omega
theorem dec_code {x : Inp} (h : Val x) : dec (code x) = x := by
  obtain ⟨a, b, c⟩ := x
  unfold Val at h
  unfold dec code
  simp only at h ⊢
  refine Prod.ext ?_ (Prod.ext ?_ ?_) <;> simp only <;> omega
theorem code_bd {x : Inp} (h : Val x) : 0 ≤ code x ∧ code x ≤ 35 := by
  unfold Val at h
  unfold code
  omega
theorem code_inj {x y : Inp} (hx : Val x) (hy : Val y) (h : code x = code y) : x = y := by
  rw [← dec_code hx, h, dec_code hy]

/-- The value of an input. -/
abbrev inp (x : Inp) : Value := .agg #[.int .i64 x.1, .int .i64 x.2.1, .int .i64 x.2.2]

set_option maxHeartbeats 400000 in
theorem refdec_yes (b : Int) (w : World) (h0 : 0 ≤ b) (h : b ≤ 35) :
    Calls Try.prog 32 #[.int .u8 b] w fun e w' => e = .returned (.tuple #[inp (dec b), .int .i64 0]) ∧ Below w.heap.size w w' := by
  go_enter Try.func32, Try.ntmps32
  go_wp2
  exact bodyPost_ret (v := .tuple #[inp (dec b), .int .i64 0]) (by simp [results, Try.results32, go_sem, dec]) rfl ⟨rfl, by (repeat (first | (with_reducible exact Below.refl _ _) | (with_reducible assumption) | (with_reducible refine b_drew ?_) | (with_reducible refine b_drewN ?_ _) | (with_reducible refine b_alloc ?_ _) | ((with_reducible refine b_set ?_ ?_ _); rotate_left; (focus (first | omega | (simp; done) | (simp; omega) | (simp at *; omega)))) | (with_reducible refine b_call ?_ (by with_reducible assumption))))⟩
set_option maxHeartbeats 400000 in
theorem refdec_no (b : Int) (w : World) (h0 : 36 ≤ b) (h : b ≤ 255) :
    Calls Try.prog 32 #[.int .u8 b] w fun e w' => e = .returned (.tuple #[inp (0, 0, 0), .int .i64 8]) ∧ Below w.heap.size w w' := by
  go_enter Try.func32, Try.ntmps32
  go_wp2
  exact bodyPost_ret (v := .tuple #[inp (0, 0, 0), .int .i64 8]) (by simp [results, Try.results32, go_sem]) rfl ⟨rfl, by (repeat (first | (with_reducible exact Below.refl _ _) | (with_reducible assumption) | (with_reducible refine b_drew ?_) | (with_reducible refine b_drewN ?_ _) | (with_reducible refine b_alloc ?_ _) | ((with_reducible refine b_set ?_ ?_ _); rotate_left; (focus (first | omega | (simp; done) | (simp; omega) | (simp at *; omega)))) | (with_reducible refine b_call ?_ (by with_reducible assumption))))⟩
theorem refdec_any (b : Int) (w : World) (h0 : 0 ≤ b) (h : b ≤ 255) :
    Calls Try.prog 32 #[.int .u8 b] w fun e w' => e = .returned (.tuple #[inp (decI b), .int .i64 (decE b)]) ∧ Below w.heap.size w w' := by
  by_cases hb : b ≤ 35
  · simp only [decI, decE, if_pos hb]
    exact refdec_yes b w h0 hb
  · simp only [decI, decE, if_neg hb]
    exact refdec_no b w (by omega) h

set_option maxHeartbeats 400000 in
theorem of_any (n : Int) (w : World) (h1 : -9223372036854775808 ≤ n) (h2 : n ≤ 9223372036854775807) :
    Calls Try.prog 20 #[.int .i64 n] w fun e w' => e = .returned (inp (inpOf n)) ∧ Below w.heap.size w w' := by
  have hb := around_bd n 36 (by omega)
  go_enter Try.func20, Try.ntmps20
  go_wp2_with (first
    | (go_at_call 10; refine (around_any _ _ _ h1 h2 (by omega) (by omega)).mono ?_; rintro e w' ⟨rfl, rfl⟩)
    | (go_at_call 32; refine (refdec_yes _ _ (by omega) (by omega)).mono ?_; rintro e w1 ⟨rfl, hb1⟩; obtain ⟨hc1, hf1⟩ := bcell hb1; have hz1 : w.heap.size < w1.heap.size := (by have h := hb1.size; simp at h; omega)))
  exact bodyPost_ret (v := inp (inpOf n)) (by simp [results, Try.results20, go_sem, hc1, hz1, inpOf]) rfl ⟨rfl, by (repeat (first | (with_reducible exact Below.refl _ _) | (with_reducible assumption) | (with_reducible refine b_drew ?_) | (with_reducible refine b_drewN ?_ _) | (with_reducible refine b_alloc ?_ _) | ((with_reducible refine b_set ?_ ?_ _); rotate_left; (focus (first | omega | (simp; done) | (simp; omega) | (simp at *; omega)))) | (with_reducible refine b_call ?_ (by with_reducible assumption))))⟩

/-! ### within, Validate -/
def vIn (v l h : Int) : Bool := decide (l ≤ v ∧ v ≤ h)
set_option maxHeartbeats 400000 in
theorem within_yes (v l h : Int) (w : World) (h1 : l ≤ v) (h2 : v ≤ h) :
    Calls Try.prog 33 #[.int .i64 v, .int .i64 l, .int .i64 h] w fun e w' => e = .returned (.bool true) ∧ w = w' := by
  go_enter Try.func33, Try.ntmps33
  go_wp2
  go_ret
  exact ⟨rfl, rfl⟩
set_option maxHeartbeats 400000 in
theorem within_no (v l h : Int) (w : World) (h1 : ¬ (l ≤ v ∧ v ≤ h)) :
    Calls Try.prog 33 #[.int .i64 v, .int .i64 l, .int .i64 h] w fun e w' => e = .returned (.bool false) ∧ w = w' := by
  by_cases hl : l ≤ v
  · have hh : decide (v ≤ h) = false := by simp; omega
    go_enter Try.func33, Try.ntmps33
    go_wp2
    go_ret
    exact ⟨rfl, rfl⟩
  · go_enter Try.func33, Try.ntmps33
    go_wp2
    go_ret
    exact ⟨rfl, rfl⟩
theorem within_any (v l h : Int) (w : World) :
    Calls Try.prog 33 #[.int .i64 v, .int .i64 l, .int .i64 h] w fun e w' => e = .returned (.bool (vIn v l h)) ∧ w = w' := by
  by_cases hc : l ≤ v ∧ v ≤ h
  · rw [show vIn v l h = true from by simp [vIn, hc]]
    exact within_yes v l h w hc.1 hc.2
  · rw [show vIn v l h = false from by simp only [vIn, decide_eq_false_iff_not]; exact hc]
    exact within_no v l h w hc
theorem vcode_eq (x : Inp) : vcode x = if (vIn x.1 (-1) 1 && (vIn x.2.1 (-1) 1 && vIn x.2.2 0 3)) = true then 0 else 1 := by
  unfold vcode vIn Val
  simp only [Bool.and_eq_true, decide_eq_true_eq]
set_option maxHeartbeats 400000 in
theorem validate_any (x : Inp) (w : World) :
    Calls Try.prog 31 #[inp x] w fun e w' => e = .returned (.int .i64 (vcode x)) ∧ Below w.heap.size w w' := by
  obtain ⟨x, y, a⟩ := x
  have H := Lib.hid (vcode_eq (x, y, a))
  rcases h1 : vIn x (-1) 1 with _ | _ <;> rcases h2 : vIn y (-1) 1 with _ | _ <;> rcases h3 : vIn a 0 3 with _ | _
  all_goals
    go_enter Try.func31, Try.ntmps31
    go_wp2_with ((go_at_call 33; refine (within_any _ _ _ _).mono ?_; rintro e w' ⟨rfl, rfl⟩))
    go_ret
    exact ⟨ret_int (by rw [H.out]; simp only [h1, h2, h3]; rfl), by (repeat (first | (with_reducible exact Below.refl _ _) | (with_reducible assumption) | (with_reducible refine b_drew ?_) | (with_reducible refine b_drewN ?_ _) | (with_reducible refine b_alloc ?_ _) | ((with_reducible refine b_set ?_ ?_ _); rotate_left; (focus (first | omega | (simp; done) | (simp; omega) | (simp at *; omega)))) | (with_reducible refine b_call ?_ (by with_reducible assumption))))⟩
set_option maxHeartbeats 400000 in
theorem refvalidate_any (x : Inp) (w : World) :
    Calls Try.prog 23 #[inp x] w fun e w' => e = .returned (.int .i64 (vcode x)) ∧ Below w.heap.size w w' := by
  obtain ⟨x, y, a⟩ := x
  by_cases h1 : x < -1
  · have H := Lib.hid (vcode_no (x := (x, y, a)) (by unfold Val; simp only; omega))
    go_enter Try.func23, Try.ntmps23
    go_wp2
    go_ret
    exact ⟨ret_int (by rw [H.out]), by (repeat (first | (with_reducible exact Below.refl _ _) | (with_reducible assumption) | (with_reducible refine b_drew ?_) | (with_reducible refine b_drewN ?_ _) | (with_reducible refine b_alloc ?_ _) | ((with_reducible refine b_set ?_ ?_ _); rotate_left; (focus (first | omega | (simp; done) | (simp; omega) | (simp at *; omega)))) | (with_reducible refine b_call ?_ (by with_reducible assumption))))⟩
  by_cases h2 : 1 < x
  · have H := Lib.hid (vcode_no (x := (x, y, a)) (by unfold Val; simp only; omega))
    go_enter Try.func23, Try.ntmps23
    go_wp2
    go_ret
    exact ⟨ret_int (by rw [H.out]), by (repeat (first | (with_reducible exact Below.refl _ _) | (with_reducible assumption) | (with_reducible refine b_drew ?_) | (with_reducible refine b_drewN ?_ _) | (with_reducible refine b_alloc ?_ _) | ((with_reducible refine b_set ?_ ?_ _); rotate_left; (focus (first | omega | (simp; done) | (simp; omega) | (simp at *; omega)))) | (with_reducible refine b_call ?_ (by with_reducible assumption))))⟩
  by_cases h3 : y < -1
  · have H := Lib.hid (vcode_no (x := (x, y, a)) (by unfold Val; simp only; omega))
    go_enter Try.func23, Try.ntmps23
    go_wp2
    go_ret
    exact ⟨ret_int (by rw [H.out]), by (repeat (first | (with_reducible exact Below.refl _ _) | (with_reducible assumption) | (with_reducible refine b_drew ?_) | (with_reducible refine b_drewN ?_ _) | (with_reducible refine b_alloc ?_ _) | ((with_reducible refine b_set ?_ ?_ _); rotate_left; (focus (first | omega | (simp; done) | (simp; omega) | (simp at *; omega)))) | (with_reducible refine b_call ?_ (by with_reducible assumption))))⟩
  by_cases h4 : 1 < y
  · have H := Lib.hid (vcode_no (x := (x, y, a)) (by unfold Val; simp only; omega))
    go_enter Try.func23, Try.ntmps23
    go_wp2
    go_ret
    exact ⟨ret_int (by rw [H.out]), by (repeat (first | (with_reducible exact Below.refl _ _) | (with_reducible assumption) | (with_reducible refine b_drew ?_) | (with_reducible refine b_drewN ?_ _) | (with_reducible refine b_alloc ?_ _) | ((with_reducible refine b_set ?_ ?_ _); rotate_left; (focus (first | omega | (simp; done) | (simp; omega) | (simp at *; omega)))) | (with_reducible refine b_call ?_ (by with_reducible assumption))))⟩
  by_cases h5 : a < 0
  · have H := Lib.hid (vcode_no (x := (x, y, a)) (by unfold Val; simp only; omega))
    go_enter Try.func23, Try.ntmps23
    go_wp2
    go_ret
    exact ⟨ret_int (by rw [H.out]), by (repeat (first | (with_reducible exact Below.refl _ _) | (with_reducible assumption) | (with_reducible refine b_drew ?_) | (with_reducible refine b_drewN ?_ _) | (with_reducible refine b_alloc ?_ _) | ((with_reducible refine b_set ?_ ?_ _); rotate_left; (focus (first | omega | (simp; done) | (simp; omega) | (simp at *; omega)))) | (with_reducible refine b_call ?_ (by with_reducible assumption))))⟩
  by_cases h6 : 3 < a
  · have H := Lib.hid (vcode_no (x := (x, y, a)) (by unfold Val; simp only; omega))
    go_enter Try.func23, Try.ntmps23
    go_wp2
    go_ret
    exact ⟨ret_int (by rw [H.out]), by (repeat (first | (with_reducible exact Below.refl _ _) | (with_reducible assumption) | (with_reducible refine b_drew ?_) | (with_reducible refine b_drewN ?_ _) | (with_reducible refine b_alloc ?_ _) | ((with_reducible refine b_set ?_ ?_ _); rotate_left; (focus (first | omega | (simp; done) | (simp; omega) | (simp at *; omega)))) | (with_reducible refine b_call ?_ (by with_reducible assumption))))⟩
  · have H := Lib.hid (vcode_yes (x := (x, y, a)) (by unfold Val; simp only; omega))
    go_enter Try.func23, Try.ntmps23
    go_wp2
    go_ret
    exact ⟨ret_int (by rw [H.out]), by (repeat (first | (with_reducible exact Below.refl _ _) | (with_reducible assumption) | (with_reducible refine b_drew ?_) | (with_reducible refine b_drewN ?_ _) | (with_reducible refine b_alloc ?_ _) | ((with_reducible refine b_set ?_ ?_ _); rotate_left; (focus (first | omega | (simp; done) | (simp; omega) | (simp at *; omega)))) | (with_reducible refine b_call ?_ (by with_reducible assumption))))⟩

/-! ### Encode -/
def pred (x : Inp) : Inp := (x.1, x.2.1, 0)
set_option maxHeartbeats 400000 in
theorem predict_any (x : Inp) (w : World) :
    Calls Try.prog 22 #[inp x] w fun e w' => e = .returned (inp (pred x)) ∧ Below w.heap.size w w' := by
  go_enter Try.func22, Try.ntmps22
  go_wp2
  exact bodyPost_ret (v := inp (pred x)) (by simp [results, Try.results22, go_sem, pred]) rfl ⟨rfl, by (repeat (first | (with_reducible exact Below.refl _ _) | (with_reducible assumption) | (with_reducible refine b_drew ?_) | (with_reducible refine b_drewN ?_ _) | (with_reducible refine b_alloc ?_ _) | ((with_reducible refine b_set ?_ ?_ _); rotate_left; (focus (first | omega | (simp; done) | (simp; omega) | (simp at *; omega)))) | (with_reducible refine b_call ?_ (by with_reducible assumption))))⟩

/-! ### The same, by components -/
theorem validate3 (a b c : Int) (w : World) :
    Calls Try.prog 31 #[.agg #[.int .i64 a, .int .i64 b, .int .i64 c]] w fun e w' => e = .returned (.int .i64 (vcode (a, b, c))) ∧ Below w.heap.size w w' := validate_any (a, b, c) w
theorem refvalidate3 (a b c : Int) (w : World) :
    Calls Try.prog 23 #[.agg #[.int .i64 a, .int .i64 b, .int .i64 c]] w fun e w' => e = .returned (.int .i64 (vcode (a, b, c))) ∧ Below w.heap.size w w' := refvalidate_any (a, b, c) w
theorem predict3 (a b c : Int) (w : World) :
    Calls Try.prog 22 #[.agg #[.int .i64 a, .int .i64 b, .int .i64 c]] w fun e w' => e = .returned (.agg #[.int .i64 a, .int .i64 b, .int .i64 0]) ∧ Below w.heap.size w w' := predict_any (a, b, c) w
end Go.Proofs.Ytdjmaljldajpiaa
