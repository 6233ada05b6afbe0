/-
  WHAT IS PROVED HERE: the contract of package commitreveal's Commit. No condition but that the round lies in memory as stated.
-/
import Derived.Test.YtojmkfhinkmhaaaCrB
import Derived.BigQuiet
import Derived.Deep.RegionHeld3
namespace Go.Proofs.Ytojmkfhinkmhaaa
set_option linter.unusedVariables false
open Go.ChangeShapes Go.WideShapes Go.ChangeAt Go.RowKit

theorem o_drew {g : Nat} {a w : World} (h : Only (· = g) a w) : Only (· = g) a w.drew := h.drew
theorem o_drewN {g : Nat} {a w : World} (h : Only (· = g) a w) (n : Nat) : Only (· = g) a (w.drewN n) := h.drewN n
theorem o_alloc {g : Nat} {a w : World} (h : Only (· = g) a w) (o : Obj) : Only (· = g) a (w.alloc o) := h.alloc o
theorem o_call {g : Nat} {a b c : World} (h : Only (· = g) a b) (k : Only (· = g) b c) : Only (· = g) a c := h.trans k
theorem o_below {g : Nat} {a b c : World} (h : Only (· = g) a b) (k : Below b.heap.size b c) : Only (· = g) a c := h.trans (Only.of_below k _ (fun j h1 h2 => by omega))
theorem o_set {g : Nat} {a w : World} (h : Only (· = g) a w) (i : Nat) (u : Value) : Only (· = g) a (w.setCell ⟨g, i, none⟩ u) := h.setCell (p := ⟨g, i, none⟩) (.inl rfl) u
theorem stillG {X w' : World} {g : Nat} (h : Only (· = g) X w') : (∀ b o, b < X.heap.size → b ≠ g → w'.cell? ⟨b, o, none⟩ = X.cell? ⟨b, o, none⟩) ∧ Only (· = g) X w' :=
  ⟨fun b o hb hn => World.cell?_of_block (w := X) (a := ⟨b, o, none⟩) (h.heap hb hn), h⟩

theorem Ans.mk' {fn : Nat} {cap : Array Value} {u : Value} {w : World} (hf : Fu fn) (h : ∀ W, Below w.heap.size w W → Calls Try.prog fn cap W fun e w' => e = .returned u ∧ Below W.heap.size W w') : Ans w (.func (.func fn) #[] cap) u := ⟨fn, cap, rfl, hf, h⟩

/-- There is no such player. -/
def badP (k : Nat) (pl : Int) : Bool := decide (pl < 0 ∨ (k : Int) ≤ pl)
theorem badP_yes {k : Nat} {pl : Int} (h : pl < 0 ∨ (k : Int) ≤ pl) : badP k pl = true := decide_eq_true h
theorem badP_no {k : Nat} {pl : Int} (h : ¬ (pl < 0 ∨ (k : Int) ≤ pl)) : badP k pl = false := decide_eq_false h
set_option maxHeartbeats 1000000 in
theorem miss_any (b3 b2 p : Nat) (pl : Int) (r : RdV) (w : World) (h3 : w.cell? ⟨b3, 0, none⟩ = some (.int .i64 pl)) (h2 : w.cell? ⟨b2, 0, none⟩ = some (.pointer (some ⟨p, 0, none⟩))) (h : Cr w p r) :
    Calls Try.prog 55 #[.pointer (some ⟨b3, 0, none⟩), .pointer (some ⟨b2, 0, none⟩)] w fun e w' => e = .returned (.bool (badP r.k pl)) ∧ Below w.heap.size w w' := by
  obtain ⟨x0, _, _, _, _⟩ := h.facts
  clear h
  obtain ⟨k, hk⟩ : ∃ k, r.k = k := ⟨_, rfl⟩
  rw [hk] at x0 ⊢
  clear hk
  by_cases c1 : pl < 0
  · have E1 := Lib.hid (badP_yes (k := k) (.inl c1))
    have d1 : decide (pl < 0) = true := decide_eq_true c1
    clear c1
    go_enter Try.func55, Try.ntmps55
    go_wp2
    go_quiet (fail)
    go_wp2
    go_ret
    exact ⟨ret_bool (by rw [E1.out]), below_drewN (Below.refl _ _) _⟩
  · have d1 : decide (pl < 0) = false := decide_eq_false c1
    by_cases c2 : (k : Int) ≤ pl
    · have E1 := Lib.hid (badP_yes (k := k) (.inr c2))
      have d2 : decide ((k : Int) ≤ pl) = true := decide_eq_true c2
      clear c1 c2
      go_enter Try.func55, Try.ntmps55
      go_wp2
      go_quiet (fail)
      go_wp2
      go_ret
      exact ⟨ret_bool (by rw [E1.out]), below_drewN (Below.refl _ _) _⟩
    · have E1 := Lib.hid (badP_no (k := k) (pl := pl) (by omega))
      have d2 : decide ((k : Int) ≤ pl) = false := decide_eq_false c2
      clear c1 c2
      go_enter Try.func55, Try.ntmps55
      go_wp2
      go_quiet (fail)
      go_wp2
      go_ret
      exact ⟨ret_bool (by rw [E1.out]), below_drewN (Below.refl _ _) _⟩
/-- What missing hands back. -/
def Miss (w : World) (r : RdV) (pl : Int) (e : Ending) (w' : World) : Prop :=
  ∃ cap, e = .returned (.func (.func 56) #[] cap) ∧ Ans w' (.func (.func 56) #[] cap) (.int .i64 (if badP r.k pl then 17 else 0)) ∧ Below w.heap.size w w'
set_option maxHeartbeats 1000000 in
theorem missing_any (p : Nat) (pl : Int) (r : RdV) (w : World) (h : Cr w p r) :
    Calls Try.prog 39 #[.pointer (some ⟨p, 0, none⟩), .int .i64 pl] w (Miss w r pl) := by
  have HC := Lib.hid h
  clear h
  go_enter Try.func39, Try.ntmps39
  go_wp2_with fail
  refine (when_any _ 17 _ ⟨_, _, rfl⟩).mono ?_
  rintro e w1 ⟨cap, rfl, hA, hb1⟩
  have HA := Lib.hid hA
  clear hA
  go_wp2
  go_ret
  refine ⟨cap, rfl, HA.out (badP r.k pl) (Ans.mk' (fun args w => run_enter Try.func55 (by kernel_rfl) rfl args w) fun W hW => ?_), by (repeat (first | (with_reducible exact Below.refl _ _) | (with_reducible assumption) | (with_reducible refine b_drew ?_) | (with_reducible refine b_drewN ?_ _) | (with_reducible refine b_alloc ?_ _) | ((with_reducible refine b_set ?_ ?_ _); rotate_left; (focus (first | omega | (simp; done) | (simp; omega) | (simp at *; omega)))) | (with_reducible refine b_call ?_ (by with_reducible assumption))))⟩
  refine miss_any _ _ p pl r W (cell_keep hW (by simp)) (cell_keep hW (by simp)) ?_
  exact ((HC.out.call (b_alloc (Below.refl _ _) _)).call (b_alloc (Below.refl _ _) _)).call hW
set_option maxHeartbeats 400000 in
theorem closed_any (b3 p : Nat) (r : RdV) (w : World) (h3 : w.cell? ⟨b3, 0, none⟩ = some (.pointer (some ⟨p, 0, none⟩))) (h : Cr w p r) :
    Calls Try.prog 41 #[.pointer (some ⟨b3, 0, none⟩)] w fun e w' => e = .returned (.bool r.o) ∧ Below w.heap.size w w' := by
  obtain ⟨_, _, x2, _, _⟩ := h.facts
  clear h
  go_enter Try.func41, Try.ntmps41
  go_wp2
  go_ret
  exact ⟨rfl, Below.refl _ _⟩
set_option maxHeartbeats 400000 in
theorem done_any (b3 b4 p q : Nat) (r : RdV) (w : World) (h3 : w.cell? ⟨b3, 0, none⟩ = some (.pointer (some ⟨p, 0, none⟩))) (h4 : w.cell? ⟨b4, 0, none⟩ = some (.int .i64 q)) (h : Cr w p r) (hq : q < 8) :
    Calls Try.prog 42 #[.pointer (some ⟨b3, 0, none⟩), .pointer (some ⟨b4, 0, none⟩)] w fun e w' => e = .returned (.bool (r.st q).c) ∧ Below w.heap.size w w' := by
  obtain ⟨x0, x1, x2⟩ := h.st hq
  have b1 : (0 : Int) ≤ (q : Int) := by omega
  have b2 : (q : Int) < 8 := by omega
  clear h
  go_enter Try.func42, Try.ntmps42
  go_wp2
  go_quiet (fail)
  go_wp2
  go_ret
  exact ⟨rfl, below_drewN (Below.refl _ _) _⟩
end Go.Proofs.Ytojmkfhinkmhaaa
