/-
  WHAT IS PROVED HERE: the walk of the law UnionfindIslands, and what the other laws share. Conditions: the arguments' lengths are a machine's.
-/
import Derived.Test.YtjmhibjkbnbefaaUfG
namespace Go.Proofs.Ytjmhibjkbnbefaa
set_option linter.unusedVariables false
open Go.ChangeShapes Go.WideShapes Go.ChangeAt Go.RowKit

theorem equal2_is (A A' : Option Addr) (n c n' c' : Nat) (l l' : List (List Int)) (w : World) (q : Bool) (rd : RdRows w A n l) (rd' : RdRows w A' n' l') (hs : Small l) (hs' : Small l') (hq : decide (l = l') = q) :
    Calls Try.prog 13 #[.slice A n c, .slice A' n' c'] w fun e w' => e = .returned (.bool q) ∧ Below w.heap.size w w' := by
  subst hq
  exact equal2_any A A' n c n' c' l l' w rd rd' hs hs'
theorem equal2_same (A A' : Option Addr) (n c n' c' : Nat) (l : List (List Int)) (w : World) (rd : RdRows w A n l) (rd' : RdRows w A' n' l) (hs : Small l) :
    Calls Try.prog 13 #[.slice A n c, .slice A' n' c'] w fun e w' => e = .returned (.bool true) ∧ Below w.heap.size w w' := equal2_is A A' n c n' c' l l w true rd rd' hs hs (by simp)
def edgesOf (l : List Int) : List (Int × Int) := (l.map edgeOf).take 30
theorem edgesOf_bd (l : List Int) : ∀ e ∈ edgesOf l, (-1 ≤ e.1 ∧ e.1 ≤ 14) ∧ (0 ≤ e.2 ∧ e.2 ≤ 14) := by
  intro e he
  obtain ⟨x, _, rfl⟩ := List.mem_map.1 (List.mem_of_mem_take he)
  exact edge_bd x
theorem edgesOf_ok (l : List Int) : EdgeBd (edgesOf l) := by
  intro e he
  have := edgesOf_bd l e he
  omega
theorem size_nat (n : Int) : ∃ K : Nat, around n 15 = K ∧ K ≤ 14 := by
  have := around_bd n 15 (by omega)
  exact ⟨(around n 15).toNat, by omega, by omega⟩

set_option maxHeartbeats 1000000 in
theorem islands_walk (a : Int) (A : Option Addr) (n c : Nat) (l : List Int) (w : World) (ha : -9223372036854775808 ≤ a ∧ a ≤ 9223372036854775807)
    (nc : n ≤ c) (cm : c ≤ maxLen) (ln : l.length = n) (rd : Rd w w.heap.size 1 A n (l.map (Value.int .i64))) (wf : ∀ x ∈ l, (Lit.int .i64 x).wf = true) :
    Calls Try.prog 3 #[.int .i64 a, .slice A n c] w fun e w' => e = .returned (.bool true) ∧ Below w.heap.size w w' := by
  have RD := Lib.hid rd
  have H64 := Lib.hid (fun x hx => bounds_i64 (wf x hx))
  have hn : n ≤ 9223372036854775807 := by unfold maxLen at cm; omega
  obtain ⟨K, hK, hK14⟩ := size_nat a
  have HK := Lib.hid hK
  have HB := Lib.hid (edgesOf_ok l)
  have hm30 : min n 30 ≤ 30 := Nat.min_le_right _ _
  have HS := Lib.hid (groups_small (f := foldU K idU (edgesOf l)) (n := K) (by omega))
  clear rd wf nc cm ln hK
  go_enter Try.func3, Try.ntmps3
  go_wp2_with fail
  refine (size_any a _ ha.1 ha.2).mono ?_
  rintro e w_ ⟨rfl, rfl⟩
  rw [HK.out]
  go_wp2_with fail
  refine (edges_any A n c l _ H64.out RD.out hn).mono ?_
  rintro e w1 ⟨A1, c1, rfl, hc1, hm1, own1, hb1⟩
  have R1 := Lib.hid (show Rd w1 w1.heap.size 2 A1 (min n 30) (flat2 (edgesOf l)) from rd_own own1)
  clear own1
  go_wp2_with fail
  refine (islands_any K A1 _ c1 (edgesOf l) _ (by omega) (by omega) HB.out R1.out).mono ?_
  rintro e w2 ⟨A2, c2, vs2, rfl, hc2, hm2, own2, rows2, hb2⟩
  have R2 := Lib.hid (RdRows.of own2 rfl rows2)
  clear own2 rows2
  go_wp2_with fail
  refine (refislands_any K A1 _ c1 (edgesOf l) _ (by omega) (by omega) HB.out (rd_step R1.out hb2)).mono ?_
  rintro e w3 ⟨A3, c3, vs3, rfl, hc3, hm3, own3, rows3, hb3⟩
  have R3 := Lib.hid (RdRows.of own3 rfl rows3)
  clear own3 rows3
  generalize groupsI (foldU K idU (edgesOf l)) K = G at *
  go_wp2_with fail
  refine (equal2_same A2 A3 _ c2 _ c3 G _ (R2.out.step hb3) R3.out HS.out).mono ?_
  rintro e w4 ⟨rfl, hb4⟩
  go_wp2_with fail
  refine (lives_any _).mono ?_
  rintro e w5 ⟨rfl, hb5⟩
  go_wp2
  go_ret
  exact ⟨rfl, by (repeat (first | (with_reducible exact Below.refl _ _) | (with_reducible assumption) | (with_reducible refine b_drew ?_) | (with_reducible refine b_drewN ?_ _) | (with_reducible refine b_alloc ?_ _) | ((with_reducible refine b_set ?_ ?_ _); rotate_left; (focus (first | omega | (simp; done) | (simp; omega) | (simp at *; omega)))) | (with_reducible refine b_call ?_ (by with_reducible assumption))))⟩
end Go.Proofs.Ytjmhibjkbnbefaa
