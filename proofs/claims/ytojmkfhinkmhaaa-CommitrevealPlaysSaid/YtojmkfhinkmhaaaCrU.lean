/-
  WHAT IS PROVED HERE: the contracts of the reference's Commit and Reveal. No condition but that the round lies in memory as stated.
-/
import Derived.Test.YtojmkfhinkmhaaaCrT
namespace Go.Proofs.Ytojmkfhinkmhaaa
set_option linter.unusedVariables false
open Go.ChangeShapes Go.WideShapes Go.ChangeAt Go.RowKit

/-- A round of the reference and a code come back. -/
def RetRefE (A0 : Option Addr) (w : World) (r : RdV) (E : Int) (e : Ending) (w' : World) : Prop :=
  ∃ A c, e = .returned (.tuple #[.agg #[.int .i64 r.t, .slice A r.k c, .bool r.o], .int .i64 E]) ∧ Rd w' w'.heap.size 6 A r.k (onesC r.st r.k) ∧ Below w.heap.size w w' ∧ (A = A0 ∨ ∀ a, A = some a → w.heap.size ≤ a.block)
theorem cmE_bad {r : RdV} {pl : Int} (h : pl < 0 ∨ (r.k : Int) ≤ pl) : cmE r pl = 17 := by unfold cmE; rw [badP_yes h]; rfl
theorem cmS_bad {r : RdV} {pl c : Int} (h : ¬ cmE r pl = 0) : cmS r pl c = r := if_neg h
theorem cmE_nat {r : RdV} {q : Nat} (h : q < r.k) : cmE r q = if r.o then 20 else if (r.st q).c then 4 else 0 := by unfold cmE; rw [badP_lt h, toNat_q]; rfl
section
variable (A : Option Addr) (k c : Nat) (t : Int) (o : Bool) (f : Nat → StV) (w : World)
set_option maxRecDepth 100000 in
set_option maxHeartbeats 2000000 in
theorem refcommit_any (pl cc : Int) (rd : Rd w w.heap.size 6 A k (onesC f k)) (hk : k ≤ 8) (hI : ∀ q, (f q).c = false → (f q).r = false ∧ (f q).i = (0, 0, 0)) :
    Calls Try.prog 29 #[.agg #[.int .i64 t, .slice A k c, .bool o], .int .i64 pl, .int .u64 cc] w (RetRefE A w (cmS ⟨k, t, o, f⟩ pl cc) (cmE ⟨k, t, o, f⟩ pl)) := by
  have RD := Lib.hid rd
  have HI := Lib.hid hI
  clear rd hI
  by_cases c1 : pl < 0
  · rw [cmE_bad (r := ⟨k, t, o, f⟩) (.inl c1), cmS_bad (by rw [cmE_bad (r := ⟨k, t, o, f⟩) (.inl c1)]; decide)]
    have d1 : decide (pl < 0) = true := decide_eq_true c1
    clear c1
    go_enter Try.func29, Try.ntmps29
    go_wp2
    exact bodyPost_ret (v := .tuple #[.agg #[.int .i64 t, .slice A k c, .bool o], .int .i64 17]) (by simp [results, Try.results29, go_sem]) rfl ⟨A, c, rfl, rd_step RD.out (by (repeat (first | (with_reducible exact Below.refl _ _) | (with_reducible assumption) | (with_reducible refine b_drew ?_) | (with_reducible refine b_drewN ?_ _) | (with_reducible refine b_alloc ?_ _) | ((with_reducible refine b_set ?_ ?_ _); rotate_left; (focus (first | omega | (simp; done) | (simp; omega) | (simp at *; omega)))) | (with_reducible refine b_call ?_ (by with_reducible assumption))))), by (repeat (first | (with_reducible exact Below.refl _ _) | (with_reducible assumption) | (with_reducible refine b_drew ?_) | (with_reducible refine b_drewN ?_ _) | (with_reducible refine b_alloc ?_ _) | ((with_reducible refine b_set ?_ ?_ _); rotate_left; (focus (first | omega | (simp; done) | (simp; omega) | (simp at *; omega)))) | (with_reducible refine b_call ?_ (by with_reducible assumption)))), .inl rfl⟩
  by_cases c2 : (k : Int) ≤ pl
  · rw [cmE_bad (r := ⟨k, t, o, f⟩) (.inr c2), cmS_bad (by rw [cmE_bad (r := ⟨k, t, o, f⟩) (.inr c2)]; decide)]
    have d1 : decide (pl < 0) = false := decide_eq_false c1
    have d2 : decide ((k : Int) ≤ pl) = true := decide_eq_true c2
    clear c1 c2
    go_enter Try.func29, Try.ntmps29
    go_wp2
    exact bodyPost_ret (v := .tuple #[.agg #[.int .i64 t, .slice A k c, .bool o], .int .i64 17]) (by simp [results, Try.results29, go_sem]) rfl ⟨A, c, rfl, rd_step RD.out (by (repeat (first | (with_reducible exact Below.refl _ _) | (with_reducible assumption) | (with_reducible refine b_drew ?_) | (with_reducible refine b_drewN ?_ _) | (with_reducible refine b_alloc ?_ _) | ((with_reducible refine b_set ?_ ?_ _); rotate_left; (focus (first | omega | (simp; done) | (simp; omega) | (simp at *; omega)))) | (with_reducible refine b_call ?_ (by with_reducible assumption))))), by (repeat (first | (with_reducible exact Below.refl _ _) | (with_reducible assumption) | (with_reducible refine b_drew ?_) | (with_reducible refine b_drewN ?_ _) | (with_reducible refine b_alloc ?_ _) | ((with_reducible refine b_set ?_ ?_ _); rotate_left; (focus (first | omega | (simp; done) | (simp; omega) | (simp at *; omega)))) | (with_reducible refine b_call ?_ (by with_reducible assumption)))), .inl rfl⟩
  have d1 : decide (pl < 0) = false := decide_eq_false c1
  have d2 : decide ((k : Int) ≤ pl) = false := decide_eq_false c2
  obtain ⟨q, rfl, hq⟩ : ∃ q : Nat, pl = q ∧ q < k := ⟨pl.toNat, by omega, by omega⟩
  clear c1 c2
  have hE := cmE_nat (r := ⟨k, t, o, f⟩) hq
  simp only at hE
  rcases o with _ | _
  · obtain ⟨b0, o0, rfl, hb0, hcell⟩ := refr_len RD.out hq
    have z0 := hcell 0 _ (by omega) rfl
    simp only [Nat.add_zero] at z0
    have k1 : (0 : Int) ≤ (q : Int) := by omega
    have k2 : (q : Int) < (k : Int) := by omega
    clear hcell
    rcases hc : (f q).c with _ | _
    · rw [hc] at z0 hE
      have hE0 : cmE ⟨k, t, false, f⟩ q = 0 := hE
      have hS : cmS ⟨k, t, false, f⟩ q cc = ⟨k, t, false, setSt f q ⟨true, false, cc, (0, 0, 0)⟩⟩ := by
        obtain ⟨h1, h2⟩ := HI.out q hc
        unfold cmS
        rw [if_pos hE0, toNat_q]
        unfold cmR
        simp only [h1, h2]
      rw [hE0, hS]
      clear hE hE0 hS hc HI
      go_enter Try.func29, Try.ntmps29
      go_wp2_with fail
      refine (with_any (some ⟨b0, o0, none⟩) k c q t false f ⟨true, false, cc, (0, 0, 0)⟩ _ (rd_step RD.out (by (repeat (first | (with_reducible exact Below.refl _ _) | (with_reducible assumption) | (with_reducible refine b_drew ?_) | (with_reducible refine b_drewN ?_ _) | (with_reducible refine b_alloc ?_ _) | ((with_reducible refine b_set ?_ ?_ _); rotate_left; (focus (first | omega | (simp; done) | (simp; omega) | (simp at *; omega)))) | (with_reducible refine b_call ?_ (by with_reducible assumption)))))) hq hk).mono ?_
      rintro e w2 ⟨A2, c2, rfl, own2, hb2⟩
      have V6 := Lib.hid ((vr_new1 w _ 56 #[.int .i64 0, .slice none 0 0, .bool false]).call hb2)
      have OW2 := Lib.hid own2
      have HB2 : Below w.heap.size w w2 := by (repeat (first | (with_reducible exact Below.refl _ _) | (with_reducible assumption) | (with_reducible refine b_drew ?_) | (with_reducible refine b_drewN ?_ _) | (with_reducible refine b_alloc ?_ _) | ((with_reducible refine b_set ?_ ?_ _); rotate_left; (focus (first | omega | (simp; done) | (simp; omega) | (simp at *; omega)))) | (with_reducible refine b_call ?_ (by with_reducible assumption))))
      obtain ⟨v1, v2, v3⟩ := V6.out.facts
      clear own2 z0 hb2
      simp only
      go_wp2
      refine name_post ?_
      intro Z hZ
      have VZ := Lib.hid (show Vr Z (w.heap.size + 1) 56 #[.int .i64 t, .slice A2 k c2, .bool false] from by rw [hZ]; simpa using ((V6.out.set 0 (.int .i64 t)).set 1 (.slice A2 k c2)).set 2 (.bool false))
      have HBZ : Below w.heap.size w Z := by rw [hZ]; exact b_set (b_set (b_set HB2 (by simp) _) (by simp) _) (by simp) _
      have HRZ := Lib.hid (show Rd Z Z.heap.size 6 A2 k (onesC (setSt f q ⟨true, false, cc, (0, 0, 0)⟩) k) from by
        refine rd_own (own_only (g := w.heap.size + 1) OW2.out (show Only (· = w.heap.size + 1) w2 Z from by rw [hZ]; exact o_set (o_set (o_set (Only.refl _ _) _ _) _ _) _ _) fun e => ?_)
        have := (OW2.out.lt _ e).1
        simp at this
        omega)
      obtain ⟨q1, q2, q3⟩ := VZ.out.facts
      clear hZ V6 v1 v2 v3
      exact bodyPost_ret (v := .tuple #[.agg #[.int .i64 t, .slice A2 k c2, .bool false], .int .i64 0]) (by simp [results, Try.results29, go_sem, q2]) rfl ⟨_, _, rfl, HRZ.out, HBZ, .inr fun a e => by have := (OW2.out.lt a.block (by rw [e]; rfl)).1; simp at this; omega⟩
    · rw [hc] at z0 hE
      have hE0 : cmE ⟨k, t, false, f⟩ q = 4 := hE
      rw [hE0, cmS_bad (by rw [hE0]; decide)]
      clear hE hE0 hc
      go_enter Try.func29, Try.ntmps29
      go_wp2
      exact bodyPost_ret (v := .tuple #[.agg #[.int .i64 t, .slice (some ⟨b0, o0, none⟩) k c, .bool false], .int .i64 4]) (by simp [results, Try.results29, go_sem]) rfl ⟨_, c, rfl, rd_step RD.out (by (repeat (first | (with_reducible exact Below.refl _ _) | (with_reducible assumption) | (with_reducible refine b_drew ?_) | (with_reducible refine b_drewN ?_ _) | (with_reducible refine b_alloc ?_ _) | ((with_reducible refine b_set ?_ ?_ _); rotate_left; (focus (first | omega | (simp; done) | (simp; omega) | (simp at *; omega)))) | (with_reducible refine b_call ?_ (by with_reducible assumption))))), by (repeat (first | (with_reducible exact Below.refl _ _) | (with_reducible assumption) | (with_reducible refine b_drew ?_) | (with_reducible refine b_drewN ?_ _) | (with_reducible refine b_alloc ?_ _) | ((with_reducible refine b_set ?_ ?_ _); rotate_left; (focus (first | omega | (simp; done) | (simp; omega) | (simp at *; omega)))) | (with_reducible refine b_call ?_ (by with_reducible assumption)))), .inl rfl⟩
  · have hE0 : cmE ⟨k, t, true, f⟩ q = 20 := hE
    rw [hE0, cmS_bad (by rw [hE0]; decide)]
    clear hE hE0
    go_enter Try.func29, Try.ntmps29
    go_wp2
    exact bodyPost_ret (v := .tuple #[.agg #[.int .i64 t, .slice A k c, .bool true], .int .i64 20]) (by simp [results, Try.results29, go_sem]) rfl ⟨A, c, rfl, rd_step RD.out (by (repeat (first | (with_reducible exact Below.refl _ _) | (with_reducible assumption) | (with_reducible refine b_drew ?_) | (with_reducible refine b_drewN ?_ _) | (with_reducible refine b_alloc ?_ _) | ((with_reducible refine b_set ?_ ?_ _); rotate_left; (focus (first | omega | (simp; done) | (simp; omega) | (simp at *; omega)))) | (with_reducible refine b_call ?_ (by with_reducible assumption))))), by (repeat (first | (with_reducible exact Below.refl _ _) | (with_reducible assumption) | (with_reducible refine b_drew ?_) | (with_reducible refine b_drewN ?_ _) | (with_reducible refine b_alloc ?_ _) | ((with_reducible refine b_set ?_ ?_ _); rotate_left; (focus (first | omega | (simp; done) | (simp; omega) | (simp at *; omega)))) | (with_reducible refine b_call ?_ (by with_reducible assumption)))), .inl rfl⟩
end
end Go.Proofs.Ytojmkfhinkmhaaa
