/-
  WHAT IS PROVED HERE: the calls that the reference's Acts makes out of integers, as a function; and its contract. No condition but that the numbers are a machine's.
-/
import Derived.Test.YtdjmaljldajpiaaIqL
import Derived.Deep.DeepCutAuto
namespace Go.Proofs.Ytdjmaljldajpiaa
set_option linter.unusedVariables false
open Go.ChangeShapes Go.WideShapes Go.ChangeAt Go.RowKit

structure Act where
  d : Int
  now : Int
  pl : Int
  tk : Int
  x : Inp
def actC (a : Act) : List Value := [.int .i64 a.d, .int .i64 a.now, .int .i64 a.pl, .int .i64 a.tk, .int .i64 a.x.1, .int .i64 a.x.2.1, .int .i64 a.x.2.2]
theorem actC_len (a : Act) : (actC a).length = 7 := rfl
def stepV (v : Int) : Int := if around v 10000000 % 7 = 2 ∨ around v 10000000 % 7 = 6 then 1 else if around v 10000000 % 7 = 4 then 2 else 0
def actPl (k n : Int) : Int := if n / 7 % 17 = 16 then k else n / 7 % k
def actTk (now n : Int) : Int := if n / 504 % 23 = 22 then now + 9 else now + n / 56 % 9 - 3
def actX (n : Int) : Inp := if n / 504 % 29 = 28 then (2, (inpOf (n / 504)).2.1, (inpOf (n / 504)).2.2) else inpOf (n / 504)
def actD (n : Int) : Int := if n / 3 % 5 = 0 then 1 else 0
def actF (k now v : Int) : Act := ⟨actD (around v 10000000), now, actPl k (around v 10000000), actTk now (around v 10000000), actX (around v 10000000)⟩
def nowAt (l : List Int) : Nat → Int
  | 0 => 0
  | i + 1 => nowAt l i + stepV (l.getD i 0)
def actAt (l : List Int) (k : Int) (i : Nat) : Act := actF k (nowAt l (i + 1)) (l.getD i 0)
def actsC (l : List Int) (k : Int) (i : Nat) : List Value := (List.range i).flatMap fun j => actC (actAt l k j)
theorem actsC_succ (l : List Int) (k : Int) (i : Nat) : actsC l k (i + 1) = actsC l k i ++ actC (actAt l k i) := by
  unfold actsC
  rw [List.range_succ, List.flatMap_append]
  simp
theorem actsC_len (l : List Int) (k : Int) (i : Nat) : (actsC l k i).length = i * 7 := by
  unfold actsC
  rw [block_len _ 7 (fun j => actC_len _)]
  simp
theorem actsC_get (l : List Int) (k : Int) {m i j : Nat} (hi : i < m) (hj : j < 7) : (actsC l k m)[i * 7 + j]? = (actC (actAt l k i))[j]? := by
  unfold actsC
  rw [block_get _ 7 (fun j => actC_len _) (List.range m) (by simpa using hi) hj]
  simp
theorem actC_cell (a : Act) : ∀ u ∈ actC a, u.oneCell' = true := by
  intro u hu
  simp [actC] at hu
  rcases hu with rfl | rfl | rfl | rfl | rfl | rfl | rfl <;> rfl
theorem stepV_bd (v : Int) : 0 ≤ stepV v ∧ stepV v ≤ 2 := by
  unfold stepV
  split
  · omega
  · split <;> omega
theorem nowAt_bd (l : List Int) (i : Nat) : 0 ≤ nowAt l i ∧ nowAt l i ≤ 2 * i := by
  induction i with
  | zero => simp [nowAt]
  | succ i ih =>
    have := stepV_bd (l.getD i 0)
    show 0 ≤ nowAt l i + _ ∧ nowAt l i + _ ≤ _
    omega
theorem inpOf_bd (n : Int) : (-1 ≤ (inpOf n).1 ∧ (inpOf n).1 ≤ 1) ∧ (-1 ≤ (inpOf n).2.1 ∧ (inpOf n).2.1 ≤ 1) ∧ (0 ≤ (inpOf n).2.2 ∧ (inpOf n).2.2 ≤ 3) := inpOf_val n
/-- The numbers of a call are small. -/
theorem actAt_bd (l : List Int) {k : Int} (hk : 1 ≤ k) (hk8 : k ≤ 8) {i : Nat} (hi : i < 40) :
    (actAt l k i).now = nowAt l (i + 1) ∧ (0 ≤ (actAt l k i).pl ∧ (actAt l k i).pl ≤ 8) ∧ (-3 ≤ (actAt l k i).tk ∧ (actAt l k i).tk ≤ 100) ∧ ((actAt l k i).d = 0 ∨ (actAt l k i).d = 1) := by
  have h1 := nowAt_bd l (i + 1)
  have h2 := around_bd (l.getD i 0) 10000000 (by omega)
  obtain ⟨n, hn⟩ : ∃ n, around (l.getD i 0) 10000000 = n := ⟨_, rfl⟩
  refine ⟨rfl, ?_, ?_, ?_⟩
  · unfold actAt actF actPl
    simp only
    rw [hn]
    split
    · omega
    · have h3 := Int.emod_nonneg (n / 7) (b := k) (by omega)
      have h4 := Int.emod_lt_of_pos (n / 7) (b := k) (by omega)
      omega
  · unfold actAt actF actTk
    simp only
    rw [hn]
    split <;> omega
  · unfold actAt actF actD
    simp only
    split
    · exact .inr rfl
    · exact .inl rfl
theorem nowAt_mono (l : List Int) (i : Nat) : nowAt l i ≤ nowAt l (i + 1) := by
  have := stepV_bd (l.getD i 0)
  show _ ≤ nowAt l i + _
  omega
theorem slActs : SlT Try.prog 31 36 7 56 := .mk' (z := .agg (actC ⟨0, 0, 0, 0, (0, 0, 0)⟩).toArray) Try.underlying31 (by kernel_rfl) rfl (by omega)
theorem step_lit (v : Int) {r : Nat} (h : around v 10000000 % 7 = (r : Int)) (hr : r < 7) : ([.int .i64 0, .int .i64 0, .int .i64 1, .int .i64 0, .int .i64 2, .int .i64 0, .int .i64 1] : List Value)[r]'(by simpa using hr) = .int .i64 (stepV v) := by
  unfold stepV
  have hc : r = 0 ∨ r = 1 ∨ r = 2 ∨ r = 3 ∨ r = 4 ∨ r = 5 ∨ r = 6 := by omega
  rcases hc with rfl | rfl | rfl | rfl | rfl | rfl | rfl <;> rw [h] <;> rfl
end Go.Proofs.Ytdjmaljldajpiaa
