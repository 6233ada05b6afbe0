/-
  WHAT IS PROVED HERE: rows of inputs in memory, and the contract of the reference's Equal. No condition but bounds that every machine's lengths meet.
-/
import Derived.Test.YtdjmaljldajpiaaHlpS
import Derived.Test.YtdjmaljldajpiaaInQ
import Derived.Laws.StructEq
namespace Go.Proofs.Ytdjmaljldajpiaa
set_option linter.unusedVariables false
open Go.ChangeShapes Go.WideShapes Go.ChangeAt Go.RowKit

/-- The cells of a row of inputs. -/
def flat (l : List Inp) : List Value := l.flatMap fun x => [.int .i64 x.1, .int .i64 x.2.1, .int .i64 x.2.2]
theorem flat_length (l : List Inp) : (flat l).length = l.length * 3 := by
  induction l with
  | nil => rfl
  | cons x l ih => rw [flat, List.flatMap_cons, List.length_append, ← flat, ih]; simp; omega
theorem flat_append (l m : List Inp) : flat (l ++ m) = flat l ++ flat m := by simp [flat]
theorem flat_one (x : Inp) : flat [x] = [.int .i64 x.1, .int .i64 x.2.1, .int .i64 x.2.2] := by simp [flat]
theorem flat_cell (l : List Inp) : ∀ u ∈ flat l, u.oneCell' = true := by
  intro u hu
  obtain ⟨x, _, hx⟩ := List.mem_flatMap.1 hu
  simp at hx
  rcases hx with rfl | rfl | rfl <;> rfl
theorem flat_get {l : List Inp} {k : Nat} (h : k < l.length) : (flat l)[k * 3]? = some (.int .i64 l[k].1) ∧ (flat l)[k * 3 + 1]? = some (.int .i64 l[k].2.1) ∧ (flat l)[k * 3 + 2]? = some (.int .i64 l[k].2.2) := by
  induction l generalizing k with
  | nil => simp at h
  | cons x l ih =>
    have hf : flat (x :: l) = [.int .i64 x.1, .int .i64 x.2.1, .int .i64 x.2.2] ++ flat l := by rw [flat, List.flatMap_cons, ← flat]
    rw [hf]
    rcases k with _ | k
    · simp
    · have h' : k < l.length := by simpa using h
      have := ih h'
      rw [show (k + 1) * 3 = k * 3 + 3 from by omega, show k * 3 + 3 + 1 = (k * 3 + 1) + 3 from by omega, show k * 3 + 3 + 2 = (k * 3 + 2) + 3 from by omega]
      rw [List.getElem?_append_right (by simp), List.getElem?_append_right (by simp), List.getElem?_append_right (by simp)]
      simpa using this
/-- An element of a row that is read, opened. -/
theorem Rd.openRow {w : World} {B n k : Nat} {A : Option Addr} {l : List Inp} (h : Rd w B 3 A n (flat l)) (hk : k < n) :
    ∃ b o, ∃ hl : k < l.length, A = some ⟨b, o, none⟩ ∧ b < B ∧ w.cell? ⟨b, o + k * 3, none⟩ = some (.int .i64 l[k].1) ∧ w.cell? ⟨b, o + k * 3 + 1, none⟩ = some (.int .i64 l[k].2.1) ∧ w.cell? ⟨b, o + k * 3 + 2, none⟩ = some (.int .i64 l[k].2.2) := by
  have hn : l.length = n := by
    have := h.1
    rw [flat_length] at this
    omega
  have hl : k < l.length := by omega
  obtain ⟨g0, g1, g2⟩ := flat_get hl
  obtain ⟨b, o, e, hb, hc⟩ := h.2 (by intro e; rw [e] at g0; simp at g0)
  exact ⟨b, o, hl, e, hb, hc _ _ g0, hc _ _ g1, hc _ _ g2⟩
theorem flat_inj {l m : List Inp} (h : flat l = flat m) : l = m := by
  have hl : l.length = m.length := by
    have := congrArg List.length h
    rw [flat_length, flat_length] at this
    omega
  refine List.ext_getElem hl fun k h1 h2 => ?_
  obtain ⟨a0, a1, a2⟩ := flat_get h1
  obtain ⟨b0, b1, b2⟩ := flat_get h2
  rw [h, b0] at a0
  rw [h, b1] at a1
  rw [h, b2] at a2
  simp only [Option.some.injEq, Value.int.injEq, true_and] at a0 a1 a2
  exact (Prod.ext a0 (Prod.ext a1 a2)).symm
theorem slRow : SlT Try.prog 49 34 3 24 := .mk' (z := inp (0, 0, 0)) Try.underlying49 (by kernel_rfl) rfl (by omega)

theorem take_map_one {α β : Type} (f : α → β) (l : List α) {k : Nat} (h : k < l.length) : (l.map f).take (k + 1) = (l.map f).take k ++ [f l[k]] := by
  rw [List.take_succ_eq_append_getElem (by simpa using h)]
  simp

def eqInp (x y : Inp) : Bool := decide (x = y)
theorem eqInp_self (x : Inp) : eqInp x x = true := by simp [eqInp]
theorem run_equalIn_inp (x y : Inp) (w : World) : (Op.equalIn 10000 34 (inp x) (inp y)).run Try.prog w = .ok (eqInp x y) w := by
  have h : (Op.equalIn 10000 34 (inp x) (inp y)).run Try.prog w = .ok (x.1 == y.1 && (x.2.1 == y.2.1 && x.2.2 == y.2.2)) w := by
    go_simp
    by_cases h1 : x.1 = y.1 <;> by_cases h2 : x.2.1 = y.2.1 <;> by_cases h3 : x.2.2 = y.2.2 <;> simp [h1, h2, h3]
  rw [h]
  obtain ⟨a, b, c⟩ := x
  obtain ⟨a', b', c'⟩ := y
  congr 1
  rw [eqInp, Bool.eq_iff_iff]
  simp
theorem run_eql_inp (x y : Inp) (w : World) : (binOp .eql 34 (inp x) (inp y)).run Try.prog w = .ok (.bool (eqInp x y)) w := by
  simp only [binOp]
  simp [Op.equal, Op.maxDepth, run_equalIn_inp x y w]
theorem run_neq_inp (x y : Inp) (w : World) : (binOp .neq 34 (inp x) (inp y)).run Try.prog w = .ok (.bool (!eqInp x y)) w := by
  simp only [binOp]
  simp [Op.equal, Op.maxDepth, run_equalIn_inp x y w]

theorem run_eql3 (a b c a' b' c' : Int) (w : World) : (binOp .eql 34 (.agg #[.int .i64 a, .int .i64 b, .int .i64 c]) (.agg #[.int .i64 a', .int .i64 b', .int .i64 c'])).run Try.prog w = .ok (.bool (eqInp (a, b, c) (a', b', c'))) w := run_eql_inp (a, b, c) (a', b', c') w
theorem run_neq3 (a b c a' b' c' : Int) (w : World) : (binOp .neq 34 (.agg #[.int .i64 a, .int .i64 b, .int .i64 c]) (.agg #[.int .i64 a', .int .i64 b', .int .i64 c'])).run Try.prog w = .ok (.bool (!eqInp (a, b, c) (a', b', c'))) w := run_neq_inp (a, b, c) (a', b', c') w

theorem take_eq_succ' {α : Type} {l l' : List α} {k : Nat} (h : l.take k = l'.take k) (h1 : k < l.length) (h2 : k < l'.length) (he : l[k] = l'[k]) : l.take (k + 1) = l'.take (k + 1) := by
  rw [List.take_succ_eq_append_getElem h1, List.take_succ_eq_append_getElem h2, h, he]
set_option maxHeartbeats 2000000 in
theorem equal_any (A A' : Option Addr) (n c n' c' : Nat) (l l' : List Inp) (w : World) (rd : Rd w w.heap.size 3 A n (flat l)) (rd' : Rd w w.heap.size 3 A' n' (flat l')) (hn : n ≤ 1000000000000) (hn' : n' ≤ 1000000000000) :
    Calls Try.prog 25 #[.slice A n c, .slice A' n' c'] w fun e w' => e = .returned (.bool (decide (l = l'))) ∧ Below w.heap.size w w' := by
  have hll : l.length = n := by have := rd.1; rw [flat_length] at this; omega
  have hll' : l'.length = n' := by have := rd'.1; rw [flat_length] at this; omega
  have hne := fun W x y z x' y' z' => run_neq3 x y z x' y' z' W
  by_cases hnn : n = n'
  · subst hnn
    have RD := Lib.hid rd
    have RD' := Lib.hid rd'
    have HL := Lib.hid hll
    have HL' := Lib.hid hll'
    clear rd rd' hll hll'
    go_enter Try.func25, Try.ntmps25
    go_wp2
    go_loopw [5] (fun i wr => ∃ k : Nat, k ≤ n ∧ i = .int .i64 k ∧ Hid (l.take k = l'.take k) ∧ Below w.heap.size w wr) (fun i _ => n - (intOf i).toNat)
    case atStart => exact ⟨0, by omega, rfl, rfl, Below.refl _ _⟩
    case round =>
      obtain ⟨k, hk, rfl, hT, hB⟩ := hrel
      by_cases hlt : k < n
      · obtain ⟨b, o, hl, rfl, hb, hcell0, hcell1, hcell2⟩ := (RD.out.below hB (Nat.le_refl _)).openRow hlt
        obtain ⟨b', o', hl', rfl, hb', hcell0', hcell1', hcell2'⟩ := (RD'.out.below hB (Nat.le_refl _)).openRow hlt
        by_cases he : l[k] = l'[k]
        · have E1 := Lib.hid (take_eq_succ' hT.out hl hl' he)
          obtain ⟨⟨x, y, z⟩, hx⟩ : ∃ x, l[k] = x := ⟨_, rfl⟩
          rw [← he, hx] at hcell0' hcell1' hcell2'
          rw [hx] at hcell0 hcell1 hcell2
          have hq := eqInp_self (x, y, z)
          clear he hx
          go_wp2_with fail
          go_quiet (fail)
          go_wp2
          go_roundw
          case rel => exact ⟨k + 1, by omega, by go_num, E1.out, below_drewN hB _⟩
          case measure => simp [intOf]; omega
        · have E1 := Lib.hid (show decide (l = l') = false from by
            rw [decide_eq_false_iff_not]
            intro e
            subst e
            exact he rfl)
          obtain ⟨⟨x, y, z⟩, hx⟩ : ∃ x, l[k] = x := ⟨_, rfl⟩
          obtain ⟨⟨x', y', z'⟩, hx'⟩ : ∃ x, l'[k] = x := ⟨_, rfl⟩
          rw [hx', hx] at he
          rw [hx'] at hcell0' hcell1' hcell2'
          rw [hx] at hcell0 hcell1 hcell2
          have hq : eqInp (x, y, z) (x', y', z') = false := by unfold eqInp; exact decide_eq_false he
          clear he hx hx'
          go_wp2_with fail
          go_quiet (fail)
          go_wp2
          go_ret
          exact ⟨ret_bool (by rw [E1.out]), below_drewN hB _⟩
      · have E1 := Lib.hid (show decide (l = l') = true from by
          rw [decide_eq_true_iff]
          have h := hT.out
          rw [List.take_of_length_le (by rw [HL.out]; omega), List.take_of_length_le (by rw [HL'.out]; omega)] at h
          exact h)
        go_wp2
        go_ret
        exact ⟨ret_bool (by rw [E1.out]), hB⟩
  · have E1 := Lib.hid (show decide (l = l') = false from by
      rw [decide_eq_false_iff_not]
      intro e
      subst e
      omega)
    have hq : ((n : Int) != (n' : Int)) = true := by
      rw [bne_iff_ne]
      omega
    clear hnn rd rd' hll hll'
    go_enter Try.func25, Try.ntmps25
    go_wp2
    go_ret
    exact ⟨ret_bool (by rw [E1.out]), Below.refl _ _⟩
end Go.Proofs.Ytdjmaljldajpiaa
