/-
  WHAT IS PROVED HERE: offers of inputs that depend on player and tick alone, in whatever order. No condition beyond what each theorem states.
-/
import Derived.Test.YtdjmaljldajpiaaIqI1
import Derived.Test.YtdjmaljldajpiaaHlpI
namespace Go.Proofs.Ytdjmaljldajpiaa
set_option linter.unusedVariables false
open Go.ChangeShapes Go.WideShapes Go.ChangeAt Go.RowKit

/-- What is pending behind the offers made from the numbers S. -/
def pdOf (k : Nat) (S : List Int) : PD := fun t q => if S.any (fun n => decide (n % k = (q : Int) ∧ n / k % 9 = (t : Int))) = true then some (inpOf ((t : Int) * k + q)) else none
def sq (k : Nat) (S : List Int) : QS := ⟨pdOf k S, []⟩
theorem sq_nil (k : Nat) : sq k [] = s0 := rfl
theorem pdOf_snoc (k : Nat) (S : List Int) (n : Int) (t q : Nat) : pdOf k (S ++ [n]) t q = if n % k = (q : Int) ∧ n / k % 9 = (t : Int) then some (inpOf ((t : Int) * k + q)) else pdOf k S t q := by
  unfold pdOf
  rw [List.any_append]
  by_cases h : n % k = (q : Int) ∧ n / k % 9 = (t : Int)
  · rw [if_pos h, if_pos (by simp [h])]
  · rw [if_neg h]
    congr 1
    simp only [List.any_cons, List.any_nil, Bool.or_false]
    rw [show decide (n % k = (q : Int) ∧ n / k % 9 = (t : Int)) = false from decide_eq_false h, Bool.or_false]
theorem pdOf_perm (k : Nat) {S S' : List Int} (h : ∀ n, n ∈ S ↔ n ∈ S') : pdOf k S = pdOf k S' := by
  funext t q
  unfold pdOf
  congr 2
  rw [Bool.eq_iff_iff, List.any_eq_true, List.any_eq_true]
  constructor
  · rintro ⟨n, h1, h2⟩
    exact ⟨n, (h n).1 h1, h2⟩
  · rintro ⟨n, h1, h2⟩
    exact ⟨n, (h n).2 h1, h2⟩
theorem code_eq {k : Nat} (hk : 1 ≤ k) (n : Int) (hn : 0 ≤ n) : n % (9 * (k : Int)) = n / k % 9 * k + n % k := by
  have hk' : (0 : Int) < k := by omega
  have h1 := Int.mul_ediv_add_emod n k
  have h2 := Int.mul_ediv_add_emod (n / k) 9
  have h3 := Int.emod_nonneg n (b := (k : Int)) (by omega)
  have h4 := Int.emod_lt_of_pos n hk'
  have h5 := Int.emod_nonneg (n / k) (b := 9) (by omega)
  have h6 := Int.emod_lt_of_pos (n / k) (b := 9) (by omega)
  have e : n = (n / k % 9 * k + n % k) + 9 * k * (n / k / 9) := by
    have : n = k * (9 * (n / k / 9) + n / k % 9) + n % k := by rw [h2]; omega
    rw [Int.mul_add] at this
    have h7 : (k : Int) * (9 * (n / k / 9)) = 9 * k * (n / k / 9) := by rw [← Int.mul_assoc, Int.mul_comm (k : Int) 9]
    have h8 : (k : Int) * (n / k % 9) = n / k % 9 * k := Int.mul_comm _ _
    omega
  have hb : 0 ≤ n / k % 9 * k + n % k := by
    have := Int.mul_nonneg h5 (Int.le_of_lt hk')
    omega
  have hb2 : n / k % 9 * k + n % k < 9 * k := by
    have : n / k % 9 * k ≤ 8 * k := Int.mul_le_mul_of_nonneg_right (by omega) (by omega)
    omega
  have e1 : n % (9 * (k : Int)) = ((n / k % 9 * k + n % k) + 9 * k * (n / k / 9)) % (9 * (k : Int)) := by rw [← e]
  rw [e1, Int.add_mul_emod_self_left]
  exact Int.emod_eq_of_lt hb hb2
theorem sq_off {k : Nat} (hk : 1 ≤ k) (S : List Int) (n : Int) (hn : 0 ≤ n) : offS k 2 (n % k) (n / k % 9) (inpOf (n % (9 * (k : Int)))) (sq k S) = sq k (S ++ [n]) := by
  have hk' : (0 : Int) < k := by omega
  have h3 := Int.emod_nonneg n (b := (k : Int)) (by omega)
  have h4 := Int.emod_lt_of_pos n hk'
  have h5 := Int.emod_nonneg (n / k) (b := 9) (by omega)
  have h6 := Int.emod_lt_of_pos (n / k) (b := 9) (by omega)
  have hc := code_eq hk n hn
  obtain ⟨q, hq⟩ := Int.eq_ofNat_of_zero_le h3
  obtain ⟨t, ht⟩ := Int.eq_ofNat_of_zero_le h5
  have e : offerE k (sq k S).2.length (sq k S).1 2 (n % k) (n / k % 9) (inpOf (n % (9 * (k : Int)))) = if (pdOf k S t q).isSome = true then 4 else 0 := by
    unfold offerE
    rw [if_neg (by omega), if_neg (by simpa using inpOf_val _), if_neg (by omega), if_neg (by show ¬ n / k % 9 < ((0 : Nat) : Int); omega), ht, hq]
    rfl
  unfold offS
  rw [e]
  by_cases hs : (pdOf k S t q).isSome = true
  · rw [if_pos hs, if_neg (by omega)]
    unfold sq
    congr 1
    funext t' q'
    rw [pdOf_snoc]
    by_cases h : n % k = (q' : Int) ∧ n / k % 9 = (t' : Int)
    · rw [if_pos h]
      obtain rfl : q' = q := by omega
      obtain rfl : t' = t := by omega
      unfold pdOf at hs ⊢
      by_cases h9 : S.any (fun n => decide (n % k = (q' : Int) ∧ n / k % 9 = (t' : Int))) = true
      · rw [if_pos h9]
      · rw [if_neg h9] at hs
        cases hs
    · rw [if_neg h]
  · rw [if_neg hs, if_pos rfl]
    unfold sq
    congr 1
    funext t' q'
    rw [pdOf_snoc]
    show offerP (pdOf k S) (n % k) (n / k % 9) _ t' q' = _
    unfold offerP
    by_cases h : n % k = (q' : Int) ∧ n / k % 9 = (t' : Int)
    · rw [if_pos h, if_pos (by omega), hc, h.1, h.2]
    · rw [if_neg h, if_neg (by omega)]
/-- A change of one block outside both queues. -/
theorem Two.only1 {V w w2 : World} {p b : Nat} {g : Option Nat} {p' b' : Nat} {g' : Option Nat} {k wt i j : Nat} {s s' : QS} (h : Two V w p b g p' b' g' k wt i s s') (ho : Only (· = j) w w2) (h1 : ¬ Foot p b g j) (h2 : ¬ Foot p' b' g' j) (hV : V.heap.size ≤ j) : Two V w2 p b g p' b' g' k wt i s s' := by
  obtain ⟨nm, hn, hI⟩ := h.q
  obtain ⟨nm', hn', hI'⟩ := h.q'
  exact ⟨⟨nm, hn, hI.only ho fun x hx e => h1 (e ▸ hx)⟩, ⟨nm', hn', hI'.only ho fun x hx e => h2 (e ▸ hx)⟩, h.sep, h.len, h.len', h.old, h.old', h.bel.trans (ho.below h.bel.size (by rintro x rfl; exact hV))⟩
/-- The numbers that the law draws. -/
def nums (l : List Int) : List Int := (l.take 20).map fun v => around v 100000
theorem own_empty (w : World) (e : TypeId) (sz : Nat) {base : Nat} (hb : base ≤ w.heap.size) : (w.alloc (.cells #[] e)).ownsRow base e sz (.slice (some ⟨w.heap.size, 0, none⟩) 0 0) 0 [] :=
  own_shut hb (Vr.new w e #[]) (by simp) (by simp) (Nat.le_refl _) (by simp [maxLen]) (by simp)
end Go.Proofs.Ytdjmaljldajpiaa
