/-
  WHAT IS PROVED HERE: the contract of hash64.Pair and of its reference. No condition.
-/
import Derived.Test.YtgelhcgaacnjcaaHsR
namespace Go.Proofs.Ytgelhcgaacnjcaa
set_option linter.unusedVariables false
open Go.ChangeShapes Go.WideShapes Go.ChangeAt Go.RowKit

abbrev pairTxt : ByteArray := ⟨#[112, 97, 105, 114]⟩

def pairI (a b : Int) : Int := sumI (txt pairTxt) [wrap64 a, wrap64 b]

set_option maxHeartbeats 1000000 in
theorem pair_any (a b : Int) (w : World) :
    Calls Try.prog 42 #[.int .u64 a, .int .u64 b] w fun e w' => e = .returned (.int .u64 (pairI a b)) ∧ Below w.heap.size w w' := by
  go_enter Try.func42, Try.ntmps42
  go_wp2_with fail
  refine (sum_any pairTxt (by decide) _ 2 2 [wrap64 a, wrap64 b] _ (rd_lit _ _ _ rfl rfl) (by omega)).mono ?_
  rintro e w1 ⟨rfl, hb1⟩
  go_wp2
  go_ret
  exact ⟨rfl, by (repeat (first | (with_reducible exact Below.refl _ _) | (with_reducible assumption) | (with_reducible refine b_drew ?_) | (with_reducible refine b_drewN ?_ _) | (with_reducible refine b_alloc ?_ _) | ((with_reducible refine b_set ?_ ?_ _); rotate_left; (focus (first | omega | (simp; done) | (simp; omega) | (simp at *; omega)))) | (with_reducible refine b_call ?_ (by with_reducible assumption))))⟩

set_option maxHeartbeats 1000000 in
theorem refpair_any (a b : Int) (w : World) :
    Calls Try.prog 40 #[.int .u64 a, .int .u64 b] w fun e w' => e = .returned (.int .u64 (pairI a b)) ∧ Below w.heap.size w w' := by
  go_enter Try.func40, Try.ntmps40
  go_wp2_with fail
  refine (refsum_any pairTxt (by decide) _ 2 2 [wrap64 a, wrap64 b] _ (rd_lit _ _ _ rfl rfl) (by omega)).mono ?_
  rintro e w1 ⟨rfl, hb1⟩
  go_wp2
  go_ret
  exact ⟨rfl, by (repeat (first | (with_reducible exact Below.refl _ _) | (with_reducible assumption) | (with_reducible refine b_drew ?_) | (with_reducible refine b_drewN ?_ _) | (with_reducible refine b_alloc ?_ _) | ((with_reducible refine b_set ?_ ?_ _); rotate_left; (focus (first | omega | (simp; done) | (simp; omega) | (simp at *; omega)))) | (with_reducible refine b_call ?_ (by with_reducible assumption))))⟩

theorem pair_left {a b c : Int} (ha : U64 a) (hb : U64 b) : (pairI a c == pairI b c) = (a == b) := by
  rw [Bool.eq_iff_iff, beq_iff_eq, beq_iff_eq]
  refine ⟨fun h => ?_, fun h => by rw [h]⟩
  have h1 := sumI_one (p := []) (q := [wrap64 c]) h
  exact wrap64_inj ha hb (u64w_inj (wrap64_i64 _) (wrap64_i64 _) h1)

theorem pair_right {a b c : Int} (ha : U64 a) (hb : U64 b) : (pairI c a == pairI c b) = (a == b) := by
  rw [Bool.eq_iff_iff, beq_iff_eq, beq_iff_eq]
  refine ⟨fun h => ?_, fun h => by rw [h]⟩
  have h1 := sumI_one (p := [wrap64 c]) (q := []) h
  exact wrap64_inj ha hb (u64w_inj (wrap64_i64 _) (wrap64_i64 _) h1)

end Go.Proofs.Ytgelhcgaacnjcaa
