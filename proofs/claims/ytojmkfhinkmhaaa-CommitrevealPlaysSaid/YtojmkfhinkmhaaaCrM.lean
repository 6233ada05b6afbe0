/-
  WHAT IS PROVED HERE: the contract of the laws' helper does. No condition but that the round lies in memory as stated.
-/
import Derived.Test.YtojmkfhinkmhaaaCrL
namespace Go.Proofs.Ytojmkfhinkmhaaa
set_option linter.unusedVariables false
open Go.ChangeShapes Go.WideShapes Go.ChangeAt Go.RowKit

/-- the input that a commitment is made for -/
def okI (x : Inp) : Inp := if Val x then x else (0, 0, 0)
theorem okI_val (x : Inp) : Val (okI x) := by
  unfold okI
  by_cases h : Val x
  · rw [if_pos h]; exact h
  · rw [if_neg h]; decide
/-- What does answers, and what it does. -/
def dsE (r : RdV) (T : Int) (a : ActV) : Int := if a.d = 0 then cmE r a.p else if a.d = 1 then rvE r a.p a.x a.n else 0
def dsR (r : RdV) (T : Int) (a : ActV) : RdV := if a.d = 0 then cmS r a.p (cmtI a.p T (okI a.x) a.n) else if a.d = 1 then rvS r a.p a.x a.n else closeR r
set_option maxHeartbeats 1000000 in
theorem does_2 (g : Nat) (T pl a b c n : Int) (r : RdV) (w : World) (h : Cr w g r) :
    Calls Try.prog 23 #[.pointer (some ⟨g, 0, none⟩), .int .i64 T, .agg #[.int .i64 2, .int .i64 pl, .int .i64 a, .int .i64 b, .int .i64 c, .int .u64 n]] w (RetCr w g r 0 (closeR r)) := by
  have HC := Lib.hid h
  clear h
  go_enter Try.func23, Try.ntmps23
  go_wp2_with fail
  refine (crclose_any g r _ (HC.out.call (b_alloc (Below.refl _ _) _))).mono ?_
  rintro e w1 ⟨rfl, hC1, hO1⟩
  have H1 := Lib.hid hC1
  have HO := Lib.hid (o_call (o_alloc (Only.refl (· = g) w) _) hO1)
  clear hC1 hO1
  go_wp2
  go_ret
  exact ⟨rfl, H1.out, HO.out⟩
set_option maxHeartbeats 1000000 in
theorem does_1 (g : Nat) (T pl a b c n : Int) (r : RdV) (w : World) (h : Cr w g r) (hk : r.k ≤ 8) (hn : 0 ≤ n ∧ n ≤ 18446744073709551615) :
    Calls Try.prog 23 #[.pointer (some ⟨g, 0, none⟩), .int .i64 T, .agg #[.int .i64 1, .int .i64 pl, .int .i64 a, .int .i64 b, .int .i64 c, .int .u64 n]] w (RetCr w g r (rvE r pl (a, b, c) n) (rvS r pl (a, b, c) n)) := by
  have HC := Lib.hid h
  have HN := Lib.hid hn
  have HK := Lib.hid hk
  clear h hn hk
  obtain ⟨E, hE⟩ : ∃ E, rvE r pl (a, b, c) n = E := ⟨_, rfl⟩
  obtain ⟨r', hr⟩ : ∃ E, rvS r pl (a, b, c) n = E := ⟨_, rfl⟩
  rw [hE, hr]
  have HE := Lib.hid hE
  have HR := Lib.hid hr
  clear hE hr
  go_enter Try.func23, Try.ntmps23
  go_wp2_with fail
  refine (reveal_q g pl a b c n r _ E r' HE.out HR.out (HC.out.call (b_alloc (Below.refl _ _) _)) HK.out HN.out).mono ?_
  rintro e w1 ⟨rfl, hC1, hO1⟩
  have H1 := Lib.hid hC1
  have HO := Lib.hid (o_call (o_alloc (Only.refl (· = g) w) _) hO1)
  clear hC1 hO1
  go_wp2
  go_ret
  exact ⟨rfl, H1.out, HO.out⟩
set_option maxRecDepth 100000 in
set_option maxHeartbeats 2000000 in
theorem does_0 (g : Nat) (T pl a b c n : Int) (r : RdV) (w : World) (h : Cr w g r) (hk : r.k ≤ 8) (hn : 0 ≤ n ∧ n ≤ 18446744073709551615) :
    Calls Try.prog 23 #[.pointer (some ⟨g, 0, none⟩), .int .i64 T, .agg #[.int .i64 0, .int .i64 pl, .int .i64 a, .int .i64 b, .int .i64 c, .int .u64 n]] w (RetCr w g r (cmE r pl) (cmS r pl (cmtI pl T (okI (a, b, c)) n))) := by
  have HC := Lib.hid h
  have HN := Lib.hid hn
  have HK := Lib.hid hk
  have hg := h.facts.2.2.2.1
  clear h hn hk
  obtain ⟨E, hE⟩ : ∃ E, cmE r pl = E := ⟨_, rfl⟩
  obtain ⟨r', hr⟩ : ∃ E, cmS r pl (cmtI pl T (okI (a, b, c)) n) = E := ⟨_, rfl⟩
  rw [hE, hr]
  have HE := Lib.hid hE
  have HR := Lib.hid hr
  have HV := Lib.hid (okI_val (a, b, c))
  obtain ⟨⟨a', b', c'⟩, hx⟩ : ∃ x, okI (a, b, c) = x := ⟨_, rfl⟩
  rw [hx] at HV HR
  have HX := Lib.hid hx
  clear hE hr hx
  go_enter Try.func23, Try.ntmps23
  go_wp2_with fail
  refine (refvalidate3 a b c _).mono ?_
  rintro e w1 ⟨rfl, hb1⟩
  have V1 := Lib.hid ((Vr.new w 49 #[.int .i64 0, .int .i64 pl, .int .i64 a, .int .i64 b, .int .i64 c, .int .u64 n]).call hb1)
  have HB1 : Below w.heap.size w w1 := by (repeat (first | (with_reducible exact Below.refl _ _) | (with_reducible assumption) | (with_reducible refine b_drew ?_) | (with_reducible refine b_drewN ?_ _) | (with_reducible refine b_alloc ?_ _) | ((with_reducible refine b_set ?_ ?_ _); rotate_left; (focus (first | omega | (simp; done) | (simp; omega) | (simp at *; omega)))) | (with_reducible refine b_call ?_ (by with_reducible assumption))))
  clear hb1
  obtain ⟨i, hi⟩ : ∃ i, w.heap.size = i := ⟨_, rfl⟩
  have hbi : ¬ i = g := by omega
  rw [hi] at V1 ⊢
  have HI := Lib.hid hi
  clear hi hg
  go_upto_if 14 with fail
  go_cut [] from 15 to 17 (fun wx => Hid (Vr wx i 49 #[.int .i64 0, .int .i64 pl, .int .i64 a', .int .i64 b', .int .i64 c', .int .u64 n]) ∧ Below w.heap.size w wx)
  case first =>
    obtain ⟨v1, v2, v3⟩ := V1.out.facts
    by_cases hv : Val (a, b, c)
    · have q := vcode_yes hv
      have E1 := Lib.hid (show (a, b, c) = (a', b', c') from by rw [← HX.out]; unfold okI; rw [if_pos hv])
      clear hv
      go_wp2
      go_meet
      case rel => exact ⟨Lib.hid (by have e := E1.out; injection e with e1 e2; injection e2 with e2 e3; subst e1 e2 e3; exact V1.out), HB1⟩
    · have q := vcode_no hv
      have E1 := Lib.hid (show (0, 0, 0) = (a', b', c') from by rw [← HX.out]; unfold okI; rw [if_neg hv])
      clear hv
      go_wp2
      go_meet
      case rel => exact ⟨Lib.hid (by have e := E1.out; injection e with e1 e2; injection e2 with e2 e3; subst e1 e2 e3; simpa using ((V1.out.set 2 (.int .i64 0)).set 3 (.int .i64 0)).set 4 (.int .i64 0)), b_set (b_set (b_set HB1 (Nat.le_of_eq HI.out) _) (Nat.le_of_eq HI.out) _) (Nat.le_of_eq HI.out) _⟩
  case' rest =>
    clear V1 HB1
  obtain ⟨V, HB⟩ := hcut
  obtain ⟨X, rfl⟩ : ∃ W : World, W = wc := ⟨_, rfl⟩
  have HCX := Lib.hid (HC.out.call HB)
  have y1 : X.cell? ⟨i, 1, none⟩ = some (.int .i64 pl) := V.out.cell 1
  have y2 : X.cell? ⟨i, 2, none⟩ = some (.int .i64 a') := V.out.cell 2
  have y3 : X.cell? ⟨i, 3, none⟩ = some (.int .i64 b') := V.out.cell 3
  have y4 : X.cell? ⟨i, 4, none⟩ = some (.int .i64 c') := V.out.cell 4
  have y5 : X.cell? ⟨i, 5, none⟩ = some (.int .u64 n) := V.out.cell 5
  have hil := V.out.lt
  go_wp2
  go_region_held3 (fun w' => (∀ b o, b < X.heap.size → b ≠ g → w'.cell? ⟨b, o, none⟩ = X.cell? ⟨b, o, none⟩) ∧ Only (· = g) X w') (exact stillG (by (repeat (first | (with_reducible exact Only.refl _ _) | (with_reducible assumption) | (with_reducible refine o_drew ?_) | (with_reducible refine o_drewN ?_ _) | (with_reducible refine o_alloc ?_ _) | (with_reducible refine o_call ?_ (by with_reducible assumption)) | (with_reducible refine o_below ?_ (by with_reducible assumption)))))) (first | (go_at_call 12; refine (refcmt_any pl T a' b' c' n _ HV.out HN.out).mono ?_; rintro e w2 ⟨rfl, hb2⟩) | (go_at_call 16; refine (commit_q g pl _ r _ E r' HE.out HR.out (HCX.out.call (by (repeat (first | (with_reducible exact Below.refl _ _) | (with_reducible assumption) | (with_reducible refine b_drew ?_) | (with_reducible refine b_drewN ?_ _) | (with_reducible refine b_alloc ?_ _) | ((with_reducible refine b_set ?_ ?_ _); rotate_left; (focus (first | omega | (simp; done) | (simp; omega) | (simp at *; omega)))) | (with_reducible refine b_call ?_ (by with_reducible assumption)))))) HK.out).mono ?_; rintro e w3 ⟨rfl, hC3, hO3⟩))
  all_goals
    go_wp2
    go_ret
    exact ⟨rfl, hC3, o_call (Only.of_below HB _ (fun k h1 h2 => by omega)) (by (repeat (first | (with_reducible exact Only.refl _ _) | (with_reducible assumption) | (with_reducible refine o_drew ?_) | (with_reducible refine o_drewN ?_ _) | (with_reducible refine o_alloc ?_ _) | (with_reducible refine o_call ?_ (by with_reducible assumption)) | (with_reducible refine o_below ?_ (by with_reducible assumption)))))⟩
end Go.Proofs.Ytojmkfhinkmhaaa
