/-
  WHAT IS PROVED HERE: plain facts on the hash: where one word differs, the hash differs. No condition beyond what each theorem states.
-/
import Derived.Test.YtaecimjbmdpgcaaHashR
namespace Go.Proofs.Ytaecimjbmdpgcaa
set_option linter.unusedVariables false
open Go.ChangeShapes Go.WideShapes Go.ChangeAt Go.RowKit

theorem absorb_one {s : Int} (hs : U64 s) (p q : List Int) {x y : Int} (hx : U64 x) (hy : U64 y) (h : absorb s (p ++ x :: q) = absorb s (p ++ y :: q)) : x = y := by
  rw [absorb_append, absorb_append] at h
  have h1 : mixI (absorb s p) x = mixI (absorb s p) y := absorb_inj (mixI_u64 _ _) (mixI_u64 _ _) h
  exact mixI_right hx hy h1
theorem sumI_one {lab p q : List Int} {x y : Int} (h : sumI lab (p ++ x :: q) = sumI lab (p ++ y :: q)) : u64w x = u64w y := by
  unfold sumI at h
  have h1 := mixI_left (absorb_u64 (beginI_u64 _ _) _) (absorb_u64 (beginI_u64 _ _) _) h
  simp only [List.map_append, List.map_cons, List.length_append, List.length_cons] at h1
  exact absorb_one (beginI_u64 _ _) _ _ (u64w_u64 _) (u64w_u64 _) h1
def I64 (x : Int) : Prop := -9223372036854775808 ≤ x ∧ x ≤ 9223372036854775807
theorem u64w_inj {x y : Int} (hx : I64 x) (hy : I64 y) (h : u64w x = u64w y) : x = y := by
  unfold I64 at hx hy
  simp only [IntKind.wrap_u64] at h
  omega
theorem wrap64_i64 (x : Int) : I64 (wrap64 x) := by
  simp only [wrap64, I64]
  omega
theorem wrap64_inj {x y : Int} (hx : U64 x) (hy : U64 y) (h : wrap64 x = wrap64 y) : x = y := by
  rw [← int_of_u64 hx, ← int_of_u64 hy, h]
theorem pair_left {a b c : Int} (ha : U64 a) (hb : U64 b) : (pairI a c == pairI b c) = (a == b) := by
  rw [Bool.eq_iff_iff, beq_iff_eq, beq_iff_eq]
  refine ⟨fun h => ?_, fun h => by rw [h]⟩
  have h1 := sumI_one (p := []) (q := [wrap64 c]) h
  exact wrap64_inj ha hb (u64w_inj (wrap64_i64 _) (wrap64_i64 _) h1)
theorem pair_right {a b c : Int} (ha : U64 a) (hb : U64 b) : (pairI c a == pairI c b) = (a == b) := by
  rw [Bool.eq_iff_iff, beq_iff_eq, beq_iff_eq]
  refine ⟨fun h => ?_, fun h => by rw [h]⟩
  have h1 := sumI_one (p := [wrap64 c]) (q := []) h
  exact wrap64_inj ha hb (u64w_inj (wrap64_i64 _) (wrap64_i64 _) h1)

theorem sum_set {lab l : List Int} {k : Nat} {v : Int} (hk : k < l.length) (hl : I64 l[k]) (hv : I64 v) : (sumI lab l == sumI lab (l.set k v)) = (l[k] == v) := by
  have h1 : l = l.take k ++ l[k] :: l.drop (k + 1) := by
    rw [← List.drop_eq_getElem_cons hk, List.take_append_drop]
  have h2 : l.set k v = l.take k ++ v :: l.drop (k + 1) := by
    rw [List.set_eq_take_append_cons_drop, if_pos hk]
  rw [Bool.eq_iff_iff, beq_iff_eq, beq_iff_eq]
  refine ⟨fun h => ?_, fun h => ?_⟩
  · rw [h2] at h
    have h3 : sumI lab (l.take k ++ l[k] :: l.drop (k + 1)) = sumI lab (l.take k ++ v :: l.drop (k + 1)) := by rw [← h1]; exact h
    exact u64w_inj hl hv (sumI_one h3)
  · rw [← h, List.set_getElem_self]
abbrev aTxt : ByteArray := ⟨#[97]⟩
theorem live1 : (sumI (txt aTxt) [5] != sumI (txt aTxt) [6]) = true := by
  rw [bne_iff_ne]
  intro h
  have := u64w_inj ⟨by omega, by omega⟩ ⟨by omega, by omega⟩ (sumI_one (p := []) (q := []) h)
  omega
theorem live2 : (bytesI (txt aTxt) [1, 2] == sumI (txt aTxt) [513, 2]) = true := by
  rw [beq_iff_eq, ← sum_words _ _ (by intro x hx; simp at hx; omega) (by simp)]
  have h1 : wrap64 513 = 513 := by
    simp only [wrap64]
    omega
  have h2 : (wordsI [1, 2]).map wrap64 ++ [(([1, 2] : List Int).length : Int)] = [513, 2] := by
    show [wrap64 513, 2] = [513, 2]
    rw [h1]
  rw [h2]
theorem live3 : (pairI 1 2 != pairI 1 3) = true := by
  have := pair_right (a := 2) (b := 3) (c := 1) ⟨by omega, by omega⟩ ⟨by omega, by omega⟩
  simp only [bne, this]
  rfl

set_option maxHeartbeats 1000000 in
theorem hlives_any (w : World) :
    Calls Try.prog 15 #[] w fun e w' => e = .returned (.bool true) ∧ Below w.heap.size w w' := by
  have q1 := live1
  have q2 := live2
  have q3 := live3
  go_enter Try.func15, Try.ntmps15
  go_wp2_with fail
  refine (sum_any aTxt (by decide) _ 1 1 [5] _ (rd_lit _ _ _ rfl rfl) (by omega)).mono ?_
  rintro e w1 ⟨rfl, hb1⟩
  go_wp2_with fail
  refine (sum_any aTxt (by decide) _ 1 1 [6] _ (rd_lit _ _ _ rfl rfl) (by omega)).mono ?_
  rintro e w2 ⟨rfl, hb2⟩
  go_wp2_with fail
  refine (bytes_any aTxt (by decide) [1, 2] (by intro x hx; simp at hx; omega) _ 2 2 (by omega) _ (rd_lit _ _ _ rfl rfl)).mono ?_
  rintro e w3 ⟨rfl, hb3⟩
  go_wp2_with fail
  refine (sum_any aTxt (by decide) _ 2 2 [513, 2] _ (rd_lit _ _ _ rfl rfl) (by omega)).mono ?_
  rintro e w4 ⟨rfl, hb4⟩
  go_wp2_with fail
  refine (pair_any 1 2 _).mono ?_
  rintro e w5 ⟨rfl, hb5⟩
  go_wp2_with fail
  refine (pair_any 1 3 _).mono ?_
  rintro e w6 ⟨rfl, hb6⟩
  go_wp2
  go_ret
  exact ⟨rfl, by (repeat (first | (with_reducible exact Below.refl _ _) | (with_reducible assumption) | (with_reducible refine b_drew ?_) | (with_reducible refine b_drewN ?_ _) | (with_reducible refine b_alloc ?_ _) | ((with_reducible refine b_set ?_ ?_ _); rotate_left; (focus (first | omega | (simp; done) | (simp; omega) | (simp at *; omega)))) | (with_reducible refine b_call ?_ (by with_reducible assumption))))⟩

set_option maxHeartbeats 2000000 in
theorem pairs_walk (a b c : Int) (w : World) (ha : U64 a) (hb : U64 b) (hc : U64 c) :
    Calls Try.prog 9 #[.int .u64 a, .int .u64 b, .int .u64 c] w fun e w' => e = .returned (.bool true) ∧ Below w.heap.size w w' := by
  have q1 := pair_left (c := c) ha hb
  have q2 := pair_right (c := c) ha hb
  have q3 : pairI a b = sumI (txt pairTxt) [wrap64 a, wrap64 b] := rfl
  have Q3 := Lib.hid q3
  clear q3
  go_enter Try.func9, Try.ntmps9
  go_wp2_with fail
  refine (pair_any a c _).mono ?_
  rintro e w1 ⟨rfl, hb1⟩
  go_wp2_with fail
  refine (pair_any b c _).mono ?_
  rintro e w2 ⟨rfl, hb2⟩
  go_wp2_with fail
  refine (pair_any c a _).mono ?_
  rintro e w3 ⟨rfl, hb3⟩
  go_wp2_with fail
  refine (pair_any c b _).mono ?_
  rintro e w4 ⟨rfl, hb4⟩
  go_wp2_with fail
  refine (pair_any a b _).mono ?_
  rintro e w5 ⟨rfl, hb5⟩
  rw [Q3.out]
  go_wp2_with fail
  refine (sum_any pairTxt (by decide) _ 2 2 [wrap64 a, wrap64 b] _ (rd_lit _ _ _ rfl rfl) (by omega)).mono ?_
  rintro e w6 ⟨rfl, hb6⟩
  go_wp2_with fail
  refine (hlives_any _).mono ?_
  rintro e w7 ⟨rfl, hb7⟩
  go_wp2
  go_ret
  exact ⟨rfl, by (repeat (first | (with_reducible exact Below.refl _ _) | (with_reducible assumption) | (with_reducible refine b_drew ?_) | (with_reducible refine b_drewN ?_ _) | (with_reducible refine b_alloc ?_ _) | ((with_reducible refine b_set ?_ ?_ _); rotate_left; (focus (first | omega | (simp; done) | (simp; omega) | (simp at *; omega)))) | (with_reducible refine b_call ?_ (by with_reducible assumption))))⟩
end Go.Proofs.Ytaecimjbmdpgcaa
