/-
  WHAT IS PROVED HERE: the checks of package commitreveal (first, when): contracts over any closures. No condition beyond what each theorem states.
-/
import Derived.Test.YtojmkfhinkmhaaaStep
import Derived.Test.YtojmkfhinkmhaaaHlpS
namespace Go.Proofs.Ytojmkfhinkmhaaa
set_option linter.unusedVariables false
open Go.ChangeShapes Go.WideShapes Go.ChangeAt Go.RowKit

theorem run_enter {P : Program} {f : FuncId} {fn : Func} {c : Code} (hf : P.funcs[f]? = some fn) (hname : (fn.name == "runtime.NumGoroutine") = false) (hb : fn.body = some c) (args : Array Value) (w : World) :
    (callFunc f args).run P w = .ok (.enter f args) w := by
  have h1 : fn.name ≠ "runtime.NumGoroutine" := by simpa using hname
  simp [callFunc, hf, h1, hb]
/-- f is a function of the program that is entered. -/
def Fu (f : FuncId) : Prop := ∀ args w, (callFunc f args).run Try.prog w = .ok (.enter f args) w
/-- A function value that answers u, whatever was added to the world w. -/
def Ans (w : World) (v : Value) (u : Value) : Prop :=
  ∃ fn cap, v = .func (.func fn) #[] cap ∧ Fu fn ∧ ∀ W, Below w.heap.size w W → Calls Try.prog fn cap W fun e w' => e = .returned u ∧ Below W.heap.size W w'
theorem Ans.keep {w w' : World} {v u : Value} (h : Ans w v u) (hb : Below w.heap.size w w') : Ans w' v u := by
  obtain ⟨fn, cap, rfl, hf, h⟩ := h
  exact ⟨fn, cap, rfl, hf, fun W hW => h W (hb.trans (hW.mono hb.size))⟩
/-- What 'when' hands back. -/
def When (w : World) (cv : Value) (x : Int) (e : Ending) (w' : World) : Prop :=
  ∃ cap, e = .returned (.func (.func 56) #[] cap) ∧ (∀ b, Ans w cv (.bool b) → Ans w' (.func (.func 56) #[] cap) (.int .i64 (if b then x else 0))) ∧ Below w.heap.size w w'
set_option maxHeartbeats 1000000 in
theorem whenf_any (b1 b2 : Nat) (fn : Nat) (cap : Array Value) (x : Int) (b : Bool) (w : World) (h1 : w.cell? ⟨b1, 0, none⟩ = some (.func (.func fn) #[] cap)) (h2 : w.cell? ⟨b2, 0, none⟩ = some (.int .i64 x))
    (hf : Fu fn) (h : Calls Try.prog fn cap w fun e w' => e = .returned (.bool b) ∧ Below w.heap.size w w') :
    Calls Try.prog 56 #[.pointer (some ⟨b1, 0, none⟩), .pointer (some ⟨b2, 0, none⟩)] w fun e w' => e = .returned (.int .i64 (if b then x else 0)) ∧ Below w.heap.size w w' := by
  have hf' := fun W => hf cap W
  clear hf
  rcases b with _ | _
  all_goals
    go_enter Try.func56, Try.ntmps56
    go_wp2_with fail
    refine h.mono ?_
    rintro e w1 ⟨rfl, hb1⟩
    have h3 := cell_keep hb1 h2
    go_wp2
    go_ret
    exact ⟨rfl, hb1⟩
set_option maxHeartbeats 1000000 in
theorem when_any (cv : Value) (x : Int) (w : World) (h1 : ∃ fn cap, cv = .func (.func fn) #[] cap) :
    Calls Try.prog 40 #[cv, .int .i64 x] w (When w cv x) := by
  obtain ⟨fn, cap, rfl⟩ := h1
  go_enter Try.func40, Try.ntmps40
  go_wp2
  go_ret
  refine ⟨_, rfl, fun b hA => ?_, by (repeat (first | (with_reducible exact Below.refl _ _) | (with_reducible assumption) | (with_reducible refine b_drew ?_) | (with_reducible refine b_drewN ?_ _) | (with_reducible refine b_alloc ?_ _) | ((with_reducible refine b_set ?_ ?_ _); rotate_left; (focus (first | omega | (simp; done) | (simp; omega) | (simp at *; omega)))) | (with_reducible refine b_call ?_ (by with_reducible assumption))))⟩
  obtain ⟨fn', cap', he, hf, hA⟩ := hA
  injection he with e1 e2 e3
  injection e1 with e1
  subst e1 e3
  refine ⟨_, _, rfl, fun args w => run_enter Try.func56 (by kernel_rfl) rfl args w, fun W hW => ?_⟩
  have hB : Below w.heap.size w W := Below.trans (by (repeat (first | (with_reducible exact Below.refl _ _) | (with_reducible assumption) | (with_reducible refine b_drew ?_) | (with_reducible refine b_drewN ?_ _) | (with_reducible refine b_alloc ?_ _) | ((with_reducible refine b_set ?_ ?_ _); rotate_left; (focus (first | omega | (simp; done) | (simp; omega) | (simp at *; omega)))) | (with_reducible refine b_call ?_ (by with_reducible assumption))))) (hW.mono (by simp; omega))
  refine whenf_any w.heap.size (w.heap.size + 1) fn cap x b W ?_ ?_ hf (hA W hB)
  · refine cell_keep hW ?_
    simp
  · refine cell_keep hW ?_
    simp
/-- The first code that is not 0. -/
def firstE : List Int → Int
  | [] => 0
  | c :: l => if c = 0 then firstE l else c
theorem firstE_hit : ∀ {l : List Int} {k : Nat} (h : k < l.length), (∀ i (hi : i < l.length), i < k → l[i] = 0) → l[k] ≠ 0 → firstE l = l[k]
  | [], k, h, _, _ => by simp at h
  | c :: l, 0, h, _, hn => by
    have hn : c ≠ 0 := hn
    simp [firstE, hn]
  | c :: l, k + 1, h, h0, hn => by
    have hc : c = 0 := h0 0 (by simp) (by omega)
    have := firstE_hit (l := l) (k := k) (by simpa using h) (fun i hi hik => by have := h0 (i + 1) (by simpa using hi) (by omega); simpa using this) (by simpa using hn)
    simp [firstE, hc, this]
theorem firstE_none : ∀ {l : List Int}, (∀ i (hi : i < l.length), l[i] = 0) → firstE l = 0
  | [], _ => rfl
  | c :: l, h => by
    have hc : c = 0 := h 0 (by simp)
    have := firstE_none (l := l) (fun i hi => by have := h (i + 1) (by simpa using hi); simpa using this)
    simp [firstE, hc, this]
set_option maxHeartbeats 1000000 in
theorem first_any (A : Option Addr) (n c : Nat) (vs : List Value) (codes : List Int) (w : World) (rd : Rd w w.heap.size 1 A n vs) (hc : codes.length = n) (hn : n ≤ 1000000)
    (h : ∀ j (h1 : j < vs.length) (h2 : j < codes.length), (∀ i (hi : i < codes.length), i < j → codes[i] = 0) → Ans w vs[j] (.int .i64 codes[j])) :
    Calls Try.prog 38 #[.slice A n c] w fun e w' => e = .returned (.int .i64 (firstE codes)) ∧ Below w.heap.size w w' := by
  have hl : vs.length = n := by have := rd.1; simpa using this
  have RD := Lib.hid rd
  have HH := Lib.hid h
  have HL := Lib.hid (And.intro hl hc)
  clear rd h hl hc
  go_enter Try.func38, Try.ntmps38
  go_wp2
  go_loopw [8] (fun i wr => ∃ k : Nat, k ≤ n ∧ i = .int .i64 k ∧ Hid (∀ i (hi : i < codes.length), i < k → codes[i] = 0) ∧ Below w.heap.size w wr) (fun i _ => n - (intOf i).toNat)
  case atStart => exact ⟨0, by omega, rfl, Lib.hid (fun i _ h => absurd h (by omega)), Below.refl _ _⟩
  case round =>
    obtain ⟨k, hk, rfl, HZ, hB⟩ := hrel
    by_cases hlt : k < n
    · obtain ⟨b, o, rfl, hb, hcell⟩ := (RD.out.below hB (Nat.le_refl _)).open1 hlt
      obtain ⟨fn, cap, hv, hf, hA⟩ := HH.out k (by rw [HL.out.1]; exact hlt) (by rw [HL.out.2]; exact hlt) HZ.out
      rw [hv] at hcell
      have hf' := fun W => hf cap W
      clear hf
      have hck : k < codes.length := by rw [HL.out.2]; exact hlt
      by_cases h0 : codes[k] = 0
      · have E1 := Lib.hid (show ∀ i (hi : i < codes.length), i < k + 1 → codes[i] = 0 from fun i hi hik => by
          rcases Nat.lt_or_ge i k with h1 | h1
          · exact HZ.out i hi h1
          · obtain rfl : i = k := by omega
            exact h0)
        rw [h0] at hA
        clear hv h0
        go_wp2_with fail
        refine (hA _ hB).mono ?_
        rintro e w1 ⟨rfl, hb1⟩
        go_wp2
        go_roundw
        case rel => exact ⟨k + 1, by omega, by go_num, E1, b_call hB hb1⟩
        case measure => simp [intOf]; omega
      · have E1 := Lib.hid (firstE_hit hck HZ.out h0)
        obtain ⟨y, hy⟩ : ∃ y, codes[k] = y := ⟨_, rfl⟩
        rw [hy] at hA h0 E1
        have q1 : (y != 0) = true := by rw [bne_iff_ne]; exact h0
        clear hv h0 hy
        go_wp2_with fail
        refine (hA _ hB).mono ?_
        rintro e w1 ⟨rfl, hb1⟩
        go_wp2
        go_ret
        exact ⟨ret_int (by rw [E1.out]), b_call hB hb1⟩
    · have E1 := Lib.hid (firstE_none (l := codes) fun i hi => HZ.out i hi (by rw [HL.out.2] at hi; omega))
      go_wp2
      go_ret
      exact ⟨ret_int (by rw [E1.out]), hB⟩
end Go.Proofs.Ytojmkfhinkmhaaa
