/-
  WHAT IS PROVED HERE: the laws' helper lives holds; the contracts of package commitreveal with open values. No condition but that the round lies in memory as stated.
-/
import Derived.Test.YtojmkfhinkmhaaaCrH
import Derived.Test.YtojmkfhinkmhaaaHlpSI
namespace Go.Proofs.Ytojmkfhinkmhaaa
set_option linter.unusedVariables false
open Go.ChangeShapes Go.WideShapes Go.ChangeAt Go.RowKit

def cmS (r : RdV) (pl c : Int) : RdV := if cmE r pl = 0 then cmR r pl.toNat c else r
def rvS (r : RdV) (pl : Int) (x : Inp) (n : Int) : RdV := if rvE r pl x n = 0 then rvR r pl.toNat x else r
theorem badP_nat {k : Nat} {pl : Int} (h : badP k pl = false) : ∃ q : Nat, pl = q ∧ q < k := by
  unfold badP at h
  have := of_decide_eq_false h
  exact ⟨pl.toNat, by omega, by omega⟩
theorem cm_good {r : RdV} {pl : Int} (h : cmE r pl = 0) : ∃ q : Nat, pl = q ∧ q < r.k := by
  refine badP_nat ?_
  unfold cmE at h
  rcases hb : badP r.k pl with _ | _
  · rfl
  · rw [hb] at h; cases h
theorem rv_good {r : RdV} {pl : Int} {x : Inp} {n : Int} (h : rvE r pl x n = 0) : ∃ q : Nat, pl = q ∧ q < r.k := by
  refine badP_nat ?_
  unfold rvE at h
  rcases hb : badP r.k pl with _ | _
  · rfl
  · rw [hb] at h; cases h
theorem crnew_q (k : Nat) (t : Int) (w : World) (hk : k ≤ 8) :
    Calls Try.prog 15 #[.int .i64 k, .int .i64 t] w fun e w' => ∃ p, e = .returned (.pointer (some ⟨p, 0, none⟩)) ∧ w.heap.size ≤ p ∧ Cr w' p (newR k t) ∧ Below w.heap.size w w' :=
  (crnew_any k t w hk).mono fun e w' ⟨h1, h2, h3⟩ => ⟨_, h1, Nat.le_refl _, h2, h3⟩
theorem commit_q (g : Nat) (pl c : Int) (r : RdV) (w : World) (E : Int) (r' : RdV) (hE : cmE r pl = E) (hr : cmS r pl c = r') (h : Cr w g r) (hk : r.k ≤ 8) :
    Calls Try.prog 16 #[.pointer (some ⟨g, 0, none⟩), .int .i64 pl, .int .u64 c] w (RetCr w g r E r') := by
  subst hE hr
  unfold cmS
  by_cases he : cmE r pl = 0
  · rw [if_pos he, he]
    obtain ⟨q, rfl, _⟩ := cm_good he
    exact commit_ok g q c r w h hk he
  · rw [if_neg he]
    exact commit_bad g pl c r w h hk he
theorem reveal_q (g : Nat) (pl a b c n : Int) (r : RdV) (w : World) (E : Int) (r' : RdV) (hE : rvE r pl (a, b, c) n = E) (hr : rvS r pl (a, b, c) n = r') (h : Cr w g r) (hk : r.k ≤ 8) (hn : 0 ≤ n ∧ n ≤ 18446744073709551615) :
    Calls Try.prog 17 #[.pointer (some ⟨g, 0, none⟩), .int .i64 pl, .agg #[.int .i64 a, .int .i64 b, .int .i64 c], .int .u64 n] w (RetCr w g r E r') := by
  subst hE hr
  unfold rvS
  by_cases he : rvE r pl (a, b, c) n = 0
  · rw [if_pos he, he]
    obtain ⟨q, rfl, _⟩ := rv_good he
    exact reveal_ok g q a b c n r w h hk hn he
  · rw [if_neg he]
    exact reveal_bad g pl a b c n r w h hk hn he

/-! ### lives -/
def lx : Int := cmtI 0 7 (1, 0, 2) 99
def l0 : RdV := newR 2 7
def l1 : RdV := cmR l0 0 lx
def l3 : RdV := closeR l1
def l4 : RdV := rvR l3 0 (1, 0, 2)
theorem l1E : cmE l0 0 = 0 := rfl
theorem l1S : cmS l0 0 lx = l1 := rfl
theorem l2E : rvE l1 0 (1, 0, 2) 99 = 5 := rfl
theorem l2S : rvS l1 0 (1, 0, 2) 99 = l1 := rfl
theorem l4E : rvE l3 0 (1, 0, 2) 99 = 0 := by
  show (if cmtI 0 7 (1, 0, 2) 99 != cmtI 0 7 (1, 0, 2) 99 then (21 : Int) else 0) = 0
  rw [bne_self_eq_false]
  rfl
theorem l4S : rvS l3 0 (1, 0, 2) 99 = l4 := by unfold rvS; rw [if_pos l4E]; rfl
theorem l4k : l4.k = 2 := rfl
theorem lres : resL l4 [(0, 0, 0), (0, 1, 3)] 2 = [(1, 0, 2), (0, 1, 0)] := rfl
theorem lfau : resF l4 2 = [1] := rfl
/-- behind a change of the round alone, all old memory is as it was -/
theorem below_cr {w w1 w2 : World} {p : Nat} (hb : Below w.heap.size w w1) (hp : w.heap.size ≤ p) (hO : Only (· = p) w1 w2) : Below w.heap.size w w2 :=
  hb.trans (hO.below hb.size (by rintro k rfl; exact hp))
set_option maxRecDepth 100000 in
set_option maxHeartbeats 2000000 in
theorem lives_any (w : World) : Calls Try.prog 13 #[] w fun e w' => e = .returned (.bool true) ∧ Below w.heap.size w w' := by
  go_enter Try.func13, Try.ntmps13
  go_wp2_with fail
  refine (crnew_q 2 7 _ (by omega)).mono ?_
  rintro e w1 ⟨p, rfl, hp, hC1, hb1⟩
  have H1 := Lib.hid hC1
  have hl1 := hC1.facts.2.2.2.1
  clear hC1
  go_wp2_with fail
  refine (cmt_any 0 7 1 0 2 99 _ (by decide) (by omega)).mono ?_
  rintro e w2 ⟨rfl, hb2⟩
  have HB2 : Below w1.heap.size w1 w2 := by (repeat (first | (with_reducible exact Below.refl _ _) | (with_reducible assumption) | (with_reducible refine b_drew ?_) | (with_reducible refine b_drewN ?_ _) | (with_reducible refine b_alloc ?_ _) | ((with_reducible refine b_set ?_ ?_ _); rotate_left; (focus (first | omega | (simp; done) | (simp; omega) | (simp at *; omega)))) | (with_reducible refine b_call ?_ (by with_reducible assumption))))
  have V2 := Lib.hid ((Vr.new w1 25 #[.int .i64 1, .int .i64 0, .int .i64 2]).call hb2)
  have H2 := Lib.hid (H1.out.call HB2)
  have hne : ¬ w1.heap.size = p := by omega
  obtain ⟨i, hi⟩ : ∃ i, w1.heap.size = i := ⟨_, rfl⟩
  rw [hi] at hne V2 ⊢
  rw [show cmtI 0 7 (1, 0, 2) 99 = lx from rfl]
  have HB := b_call hb1 HB2
  clear H1 hl1 hb2 HB2 hb1 hi
  go_wp2_with fail
  refine (commit_q p 0 lx l0 _ 0 l1 l1E l1S H2.out (by decide)).mono ?_
  rintro e w3 ⟨rfl, hC3, hO3⟩
  have H3 := Lib.hid hC3
  have V3 := Lib.hid (V2.out.only hO3 hne)
  have HB3 := below_cr HB hp hO3
  clear hC3 hO3 V2 H2 HB
  obtain ⟨_, y1, _⟩ := V3.out.facts
  have y0 : w3.cell? ⟨i, 0, none⟩ = some (.int .i64 1) := y1 0
  have y2 : w3.cell? ⟨i, 2, none⟩ = some (.int .i64 2) := y1 2
  have y1 : w3.cell? ⟨i, 1, none⟩ = some (.int .i64 0) := y1 1
  go_wp2_with fail
  refine (reveal_q p 0 1 0 2 99 l1 _ 5 l1 l2E l2S H3.out (by decide) (by omega)).mono ?_
  rintro e w4 ⟨rfl, hC4, hO4⟩
  have H4 := Lib.hid hC4
  have V4 := Lib.hid (V3.out.only hO4 hne)
  have HB4 := below_cr HB3 hp hO4
  clear hC4 hO4 V3 H3 HB3 y0 y1 y2
  go_wp2_with fail
  refine (crclose_any p l1 _ H4.out).mono ?_
  rintro e w5 ⟨rfl, hC5, hO5⟩
  have H5 := Lib.hid hC5
  have V5 := Lib.hid (V4.out.only hO5 hne)
  have HB5 := below_cr HB4 hp hO5
  clear hC5 hO5 V4 H4 HB4
  have y0 : w5.cell? ⟨i, 0, none⟩ = some (.int .i64 1) := V5.out.cell 0
  have y1 : w5.cell? ⟨i, 1, none⟩ = some (.int .i64 0) := V5.out.cell 1
  have y2 : w5.cell? ⟨i, 2, none⟩ = some (.int .i64 2) := V5.out.cell 2
  go_wp2_with fail
  refine (reveal_q p 0 1 0 2 99 l3 _ 0 l4 l4E l4S H5.out (by decide) (by omega)).mono ?_
  rintro e w6 ⟨rfl, hC6, hO6⟩
  have H6 := Lib.hid hC6
  have V6 := Lib.hid (V5.out.only hO6 hne)
  have HB6 := below_cr HB5 hp hO6
  clear hC6 hO6 V5 H5 HB5 y0 y1 y2
  go_wp2_with fail
  refine (result_any p _ 2 2 [(0, 0, 0), (0, 1, 3)] l4 _ (H6.out.call (b_alloc (Below.refl _ _) _)) (by decide) (rd_lit w6 _ _ rfl rfl)).mono ?_
  rintro e w7 ⟨A1, c1, A2, c2, rfl, o1, o2, hb7⟩
  rw [l4k, lres] at o1
  rw [l4k, lfau] at o2
  rw [l4k, lfau]
  have R1 := Lib.hid (rd_own o1)
  have R2 := Lib.hid (rd_own o2)
  have HB67 : Below w6.heap.size w6 w7 := by (repeat (first | (with_reducible exact Below.refl _ _) | (with_reducible assumption) | (with_reducible refine b_drew ?_) | (with_reducible refine b_drewN ?_ _) | (with_reducible refine b_alloc ?_ _) | ((with_reducible refine b_set ?_ ?_ _); rotate_left; (focus (first | omega | (simp; done) | (simp; omega) | (simp at *; omega)))) | (with_reducible refine b_call ?_ (by with_reducible assumption))))
  have V7 := Lib.hid (V6.out.call HB67)
  have HB7 := b_call HB6 HB67
  clear o1 o2 hb7 HB67 V6 H6 HB6
  have y0 : w7.cell? ⟨i, 0, none⟩ = some (.int .i64 1) := V7.out.cell 0
  have y1 : w7.cell? ⟨i, 1, none⟩ = some (.int .i64 0) := V7.out.cell 1
  have y2 : w7.cell? ⟨i, 2, none⟩ = some (.int .i64 2) := V7.out.cell 2
  go_wp2_with fail
  refine (equal_any A1 _ 2 c1 2 2 [(1, 0, 2), (0, 1, 0)] [(1, 0, 2), (0, 1, 0)] _ (rd_step R1.out (b_alloc (Below.refl _ _) _)) (rd_lit w7 _ _ rfl rfl) (by omega) (by omega)).mono ?_
  rintro e w8 ⟨rfl, hb8⟩
  have HB78 : Below w7.heap.size w7 w8 := by (repeat (first | (with_reducible exact Below.refl _ _) | (with_reducible assumption) | (with_reducible refine b_drew ?_) | (with_reducible refine b_drewN ?_ _) | (with_reducible refine b_alloc ?_ _) | ((with_reducible refine b_set ?_ ?_ _); rotate_left; (focus (first | omega | (simp; done) | (simp; omega) | (simp at *; omega)))) | (with_reducible refine b_call ?_ (by with_reducible assumption))))
  have HB8 := b_call HB7 HB78
  rw [show decide (([(1, 0, 2), (0, 1, 0)] : List Inp) = [(1, 0, 2), (0, 1, 0)]) = true from rfl]
  have R2' := Lib.hid (rd_step R2.out HB78)
  clear hb8 HB78 HB7 R2 R1 y0 y1 y2 V7
  go_wp2_with fail
  refine (sameints_any A2 _ 1 c2 1 1 [1] [1] _ (rd_step R2'.out (b_alloc (Below.refl _ _) _)) (rd_lit w8 _ _ rfl rfl) (by omega) (by omega)).mono ?_
  rintro e w9 ⟨rfl, hb9⟩
  have HB89 : Below w8.heap.size w8 w9 := by (repeat (first | (with_reducible exact Below.refl _ _) | (with_reducible assumption) | (with_reducible refine b_drew ?_) | (with_reducible refine b_drewN ?_ _) | (with_reducible refine b_alloc ?_ _) | ((with_reducible refine b_set ?_ ?_ _); rotate_left; (focus (first | omega | (simp; done) | (simp; omega) | (simp at *; omega)))) | (with_reducible refine b_call ?_ (by with_reducible assumption))))
  have HB9 := b_call HB8 HB89
  rw [show decide (([1] : List Int) = [1]) = true from rfl]
  clear hb9 HB89
  go_wp2
  go_ret
  exact ⟨rfl, HB9⟩
end Go.Proofs.Ytojmkfhinkmhaaa
