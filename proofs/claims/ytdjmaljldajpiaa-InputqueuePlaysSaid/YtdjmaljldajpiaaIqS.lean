/-
  WHAT IS PROVED HERE: the reference's queue in memory; the contract of its find. No condition but that the queue lies in memory as stated.
-/
import Derived.Test.YtdjmaljldajpiaaIqO
import Derived.Test.YtdjmaljldajpiaaStep
namespace Go.Proofs.Ytdjmaljldajpiaa
set_option linter.unusedVariables false
open Go.ChangeShapes Go.WideShapes Go.ChangeAt Go.RowKit

/-- An accepted input: player, tick, input. -/
abbrev OneV := Int × Int × Inp
def oneC (o : OneV) : List Value := [.int .i64 o.1, .int .i64 o.2.1, .int .i64 o.2.2.1, .int .i64 o.2.2.2.1, .int .i64 o.2.2.2.2]
theorem oneC_len (o : OneV) : (oneC o).length = 5 := rfl
def onesC (L : List OneV) : List Value := L.flatMap oneC
theorem onesC_len (L : List OneV) : (onesC L).length = L.length * 5 := block_len oneC 5 oneC_len L
theorem onesC_cell (L : List OneV) : ∀ u ∈ onesC L, u.oneCell' = true := by
  intro u hu
  obtain ⟨o, _, hx⟩ := List.mem_flatMap.1 hu
  simp [oneC] at hx
  rcases hx with rfl | rfl | rfl | rfl | rfl <;> rfl
theorem slOnes : SlT Try.prog 26 66 5 40 := .mk' (z := .agg (oneC (0, 0, (0, 0, 0))).toArray) Try.underlying26 (by kernel_rfl) rfl (by omega)
def isOne (P T : Int) (o : OneV) : Prop := o.1 = P ∧ o.2.1 = T
instance (P T : Int) (o : OneV) : Decidable (isOne P T o) := by unfold isOne; infer_instance
/-- The place of the first accepted input, or -1. -/
def findI (L : List OneV) (P T : Int) : Int := match L.findIdx? (fun o => decide (isOne P T o)) with
  | some i => i
  | none => -1
theorem findI_hit {L : List OneV} {P T : Int} {i : Nat} (h : i < L.length) (h0 : ∀ (j : Nat) (hj : j < L.length), j < i → ¬ isOne P T L[j]) (h1 : isOne P T L[i]) : findI L P T = i := by
  have : L.findIdx? (fun o => decide (isOne P T o)) = some i := by
    rw [List.findIdx?_eq_some_iff_getElem]
    exact ⟨h, by simpa using h1, fun j hj => by simpa using h0 j (by omega) hj⟩
  unfold findI
  rw [this]
theorem findI_none {L : List OneV} {P T : Int} (h0 : ∀ (j : Nat) (hj : j < L.length), ¬ isOne P T L[j]) : findI L P T = -1 := by
  have : L.findIdx? (fun o => decide (isOne P T o)) = none := by
    rw [List.findIdx?_eq_none_iff]
    intro o ho
    obtain ⟨j, hj, rfl⟩ := List.mem_iff_getElem.1 ho
    simpa using h0 j hj
  unfold findI
  rw [this]
theorem findI_cases (L : List OneV) (P T : Int) : (findI L P T = -1 ∧ ∀ o ∈ L, ¬ isOne P T o) ∨ ∃ (i : Nat) (h : i < L.length), findI L P T = i ∧ isOne P T L[i] ∧ ∀ (j : Nat) (hj : j < L.length), j < i → ¬ isOne P T L[j] := by
  rcases hf : L.findIdx? (fun o => decide (isOne P T o)) with _ | i
  · left
    refine ⟨by unfold findI; rw [hf], fun o ho => ?_⟩
    rw [List.findIdx?_eq_none_iff] at hf
    simpa using hf o ho
  · right
    obtain ⟨h1, h2, h3⟩ := List.findIdx?_eq_some_iff_getElem.1 hf
    refine ⟨i, h1, by unfold findI; rw [hf], by simpa using h2, fun j hj hji => ?_⟩
    simpa using h3 j hji
/-- An accepted input, opened. -/
theorem Rd.openOne {w : World} {B n k : Nat} {A : Option Addr} {L : List OneV} (h : Rd w B 5 A n (onesC L)) (hk : k < n) :
    ∃ b o, ∃ hl : k < L.length, A = some ⟨b, o, none⟩ ∧ b < B ∧ w.cell? ⟨b, o + k * 5, none⟩ = some (.int .i64 L[k].1) ∧ w.cell? ⟨b, o + k * 5 + 1, none⟩ = some (.int .i64 L[k].2.1) ∧ w.cell? ⟨b, o + k * 5 + 2, none⟩ = some (.int .i64 L[k].2.2.1) ∧ w.cell? ⟨b, o + k * 5 + 3, none⟩ = some (.int .i64 L[k].2.2.2.1) ∧ w.cell? ⟨b, o + k * 5 + 4, none⟩ = some (.int .i64 L[k].2.2.2.2) := by
  have hn : L.length = n := by
    have := h.1
    rw [onesC_len] at this
    omega
  have hl : k < L.length := by omega
  have hne : onesC L ≠ [] := by
    intro e
    have := onesC_len L
    rw [e] at this
    simp at this
    omega
  obtain ⟨b, o, e, hb, hc⟩ := h.2 hne
  refine ⟨b, o, hl, e, hb, hc (k * 5) _ ?_, hc (k * 5 + 1) _ ?_, hc (k * 5 + 2) _ ?_, hc (k * 5 + 3) _ ?_, hc (k * 5 + 4) _ ?_⟩
  · exact block_get oneC 5 oneC_len L hl (j := 0) (by omega)
  · exact block_get oneC 5 oneC_len L hl (j := 1) (by omega)
  · exact block_get oneC 5 oneC_len L hl (j := 2) (by omega)
  · exact block_get oneC 5 oneC_len L hl (j := 3) (by omega)
  · exact block_get oneC 5 oneC_len L hl (j := 4) (by omega)

set_option maxHeartbeats 1000000 in
theorem find_any (k wt : Int) (AL : Option Addr) (n cL : Nat) (vR vM : Value) (L : List OneV) (P T : Int) (w : World) (rd : Rd w w.heap.size 5 AL n (onesC L)) (hn : n ≤ 100000) (hR : vR.oneCell' = true) (hM : vM.oneCell' = true) :
    Calls Try.prog 27 #[.agg #[.int .i64 k, .int .i64 wt, .slice AL n cL, vR, vM], .int .i64 P, .int .i64 T] w fun e w' => e = .returned (.int .i64 (findI L P T)) ∧ Below w.heap.size w w' := by
  have hll : L.length = n := by have := rd.1; rw [onesC_len] at this; omega
  have RD := Lib.hid rd
  have HL := Lib.hid hll
  clear rd hll
  go_enter Try.func27, Try.ntmps27
  go_wp2
  refine name_world ?_
  intro X hX
  have hBX : Below w.heap.size w X := by rw [hX]; (repeat (first | (with_reducible exact Below.refl _ _) | (with_reducible assumption) | (with_reducible refine b_drew ?_) | (with_reducible refine b_drewN ?_ _) | (with_reducible refine b_alloc ?_ _) | ((with_reducible refine b_set ?_ ?_ _); rotate_left; (focus (first | omega | (simp; done) | (simp; omega) | (simp at *; omega)))) | (with_reducible refine b_call ?_ (by with_reducible assumption))))
  have x2 : X.cell? ⟨w.heap.size, 2, none⟩ = some (.slice AL n cL) := by rw [hX]; simp
  clear hX
  go_loop [7] (fun s7 => ∃ i : Nat, i ≤ n ∧ s7 = .int .i64 i ∧ Hid (∀ (j : Nat) (hj : j < L.length), j < i → ¬ isOne P T L[j])) (fun s7 => n - (intOf s7).toNat)
  case atStart => exact ⟨0, by omega, rfl, Lib.hid (fun j _ h => absurd h (by omega))⟩
  case round =>
    obtain ⟨i, hi, rfl, HT⟩ := hrel
    by_cases hlt : i < n
    · have d1 : decide (i < n) = true := decide_eq_true hlt
      obtain ⟨b0, o0, hl, rfl, hb, z0, z1, z2, z3, z4⟩ := (RD.out.below hBX (Nat.le_refl _)).openOne hlt
      obtain ⟨⟨pl, tk, x⟩, ho⟩ : ∃ o, L[i] = o := ⟨_, rfl⟩
      have HH := Lib.hid (fun h => findI_hit (P := P) (T := T) hl HT.out h)
      have HN := Lib.hid (show ¬ isOne P T L[i] → ∀ (j : Nat) (hj : j < L.length), j < i + 1 → ¬ isOne P T L[j] from fun h j hj hji => by
        rcases Nat.lt_or_ge j i with h1 | h1
        · exact HT.out j hj h1
        · obtain rfl : j = i := by omega
          exact h)
      rw [ho] at z0 z1 z2 z3 z4 HH HN
      clear ho z2 z3 z4
      by_cases c1 : pl = P
      · by_cases c2 : tk = T
        · have E1 := Lib.hid (HH.out ⟨c1, c2⟩)
          have q1 : (pl == P) = true := by rw [beq_iff_eq]; exact c1
          have q2 : (tk == T) = true := by rw [beq_iff_eq]; exact c2
          clear c1 c2
          go_wp2
          go_ret
          exact ⟨ret_int (by rw [E1.out]), hBX⟩
        · have E1 := Lib.hid (HN.out (fun h => c2 h.2))
          have q1 : (pl == P) = true := by rw [beq_iff_eq]; exact c1
          have q2 : (tk == T) = false := by rw [beq_eq_false_iff_ne]; exact c2
          clear c1 c2
          go_wp2
          go_round
          case rel => exact ⟨i + 1, by omega, by go_num, E1⟩
          case measure => simp [intOf]; omega
      · have E1 := Lib.hid (HN.out (fun h => c1 h.1))
        have q1 : (pl == P) = false := by rw [beq_eq_false_iff_ne]; exact c1
        clear c1
        go_wp2
        go_round
        case rel => exact ⟨i + 1, by omega, by go_num, E1⟩
        case measure => simp [intOf]; omega
    · have d1 : decide (i < n) = false := decide_eq_false hlt
      have E1 := Lib.hid (findI_none (L := L) (P := P) (T := T) fun j hj => HT.out j hj (by rw [HL.out] at hj; omega))
      go_wp2
      go_ret
      exact ⟨ret_int (by rw [E1.out]), hBX⟩
end Go.Proofs.Ytdjmaljldajpiaa
