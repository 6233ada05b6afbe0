/-
  WHAT IS PROVED HERE: the contract of package commitreveal's Reveal. No condition but that the round lies in memory as stated.
-/
import Derived.Test.YtojmkfhinkmhaaaCrF
namespace Go.Proofs.Ytojmkfhinkmhaaa
set_option linter.unusedVariables false
open Go.ChangeShapes Go.WideShapes Go.ChangeAt Go.RowKit

/-- What Reveal answers, and what it does. -/
def rvE (r : RdV) (pl : Int) (x : Inp) (n : Int) : Int := if badP r.k pl then 17 else if !r.o then 5 else if !(r.st pl.toNat).c then 21 else if (r.st pl.toNat).r then 4 else if vcode x = 0 then (if cmtI pl.toNat r.t x n != (r.st pl.toNat).h then 21 else 0) else vcode x
def rvR (r : RdV) (q : Nat) (x : Inp) : RdV := { r with st := setSt r.st q { r.st q with r := true, i := x } }
def rvR1 (r : RdV) (q : Nat) : RdV := { r with st := setSt r.st q { r.st q with r := true } }
def rvCodes (r : RdV) (pl : Int) (x : Inp) (n : Int) : List Int := [if badP r.k pl then 17 else 0, if !r.o then 5 else 0, if !(r.st pl.toNat).c then 21 else 0, if (r.st pl.toNat).r then 4 else 0, vcode x, if cmtI pl.toNat r.t x n != (r.st pl.toNat).h then 21 else 0]
theorem rv_first (r : RdV) (pl : Int) (x : Inp) (n : Int) : firstE (rvCodes r pl x n) = rvE r pl x n := by
  unfold rvCodes rvE
  by_cases hv : vcode x = 0
  · rw [hv]
    rcases badP r.k pl with _ | _ <;> rcases r.o with _ | _ <;> rcases (r.st pl.toNat).c with _ | _ <;> rcases (r.st pl.toNat).r with _ | _ <;> rcases (cmtI pl.toNat r.t x n != (r.st pl.toNat).h) with _ | _ <;> rfl
  · rcases badP r.k pl with _ | _ <;> rcases r.o with _ | _ <;> rcases (r.st pl.toNat).c with _ | _ <;> rcases (r.st pl.toNat).r with _ | _ <;> simp [firstE, hv]
theorem val_of {x : Inp} (h : vcode x = 0) : Val x := by
  by_cases hv : Val x
  · exact hv
  · rw [vcode_no hv] at h
    cases h
/-- Six checks in a row answer as their codes say. -/
theorem ans6 {w : World} {v1 v2 v3 v4 v5 v6 : Value} {c1 c2 c3 c4 c5 c6 : Int} (h1 : Ans w v1 (.int .i64 c1)) (h2 : Ans w v2 (.int .i64 c2)) (h3 : c1 = 0 → Ans w v3 (.int .i64 c3)) (h4 : c1 = 0 → Ans w v4 (.int .i64 c4)) (h5 : Ans w v5 (.int .i64 c5)) (h6 : c1 = 0 → c5 = 0 → Ans w v6 (.int .i64 c6)) :
    ∀ j (g1 : j < [v1, v2, v3, v4, v5, v6].length) (g2 : j < [c1, c2, c3, c4, c5, c6].length), (∀ i (hi : i < [c1, c2, c3, c4, c5, c6].length), i < j → [c1, c2, c3, c4, c5, c6][i] = 0) → Ans w [v1, v2, v3, v4, v5, v6][j] (.int .i64 [c1, c2, c3, c4, c5, c6][j]) := by
  intro j g1 g2 h0
  have hj : j = 0 ∨ j = 1 ∨ j = 2 ∨ j = 3 ∨ j = 4 ∨ j = 5 := by simp at g1; omega
  rcases hj with rfl | rfl | rfl | rfl | rfl | rfl
  · exact h1
  · exact h2
  · exact h3 (h0 0 (by simp) (by omega))
  · exact h4 (h0 0 (by simp) (by omega))
  · exact h5
  · exact h6 (h0 0 (by simp) (by omega)) (h0 4 (by simp) (by omega))
/-- What the boxes of Reveal hold. -/
def Keep7 (w : World) (B g : Nat) (pl a b c n : Int) : Prop := w.cell? ⟨B, 0, none⟩ = some (.pointer (some ⟨g, 0, none⟩)) ∧ w.cell? ⟨B + 1, 0, none⟩ = some (.int .i64 pl) ∧ w.cell? ⟨B + 1 + 1, 0, none⟩ = some (.int .i64 a) ∧ w.cell? ⟨B + 1 + 1, 1, none⟩ = some (.int .i64 b) ∧ w.cell? ⟨B + 1 + 1, 2, none⟩ = some (.int .i64 c) ∧ w.cell? ⟨B + 1 + 1 + 1, 0, none⟩ = some (.int .u64 n)
theorem Keep7.mk {w : World} {B g : Nat} {pl a b c n : Int} (h1 : w.cell? ⟨B, 0, none⟩ = some (.pointer (some ⟨g, 0, none⟩))) (h2 : w.cell? ⟨B + 1, 0, none⟩ = some (.int .i64 pl)) (h3 : w.cell? ⟨B + 1 + 1, 0, none⟩ = some (.int .i64 a)) (h4 : w.cell? ⟨B + 1 + 1, 1, none⟩ = some (.int .i64 b)) (h5 : w.cell? ⟨B + 1 + 1, 2, none⟩ = some (.int .i64 c)) (h6 : w.cell? ⟨B + 1 + 1 + 1, 0, none⟩ = some (.int .u64 n)) : Keep7 w B g pl a b c n := ⟨h1, h2, h3, h4, h5, h6⟩
theorem Keep7.call {w w' : World} {B g : Nat} {pl a b c n : Int} (h : Keep7 w B g pl a b c n) (hb : Below w.heap.size w w') : Keep7 w' B g pl a b c n :=
  ⟨cell_keep hb h.1, cell_keep hb h.2.1, cell_keep hb h.2.2.1, cell_keep hb h.2.2.2.1, cell_keep hb h.2.2.2.2.1, cell_keep hb h.2.2.2.2.2⟩
theorem vr_new1 (w : World) (o : Obj) (T : TypeId) (cs : Array Value) : Vr ((w.alloc o).alloc (.cells cs T)) (w.heap.size + 1) T cs := by simpa using Vr.new (w.alloc o) T cs
theorem vr_new2 (w : World) (o o2 : Obj) (T : TypeId) (cs : Array Value) : Vr (((w.alloc o).alloc o2).alloc (.cells cs T)) (w.heap.size + 1 + 1) T cs := by simpa using Vr.new ((w.alloc o).alloc o2) T cs
theorem vr_new3 (w : World) (o o2 o3 : Obj) (T : TypeId) (cs : Array Value) : Vr ((((w.alloc o).alloc o2).alloc o3).alloc (.cells cs T)) (w.heap.size + 1 + 1 + 1) T cs := by simpa using Vr.new (((w.alloc o).alloc o2).alloc o3) T cs
theorem rcr_set1 {w : World} {g q : Nat} {r : RdV} (h : Cr w g r) (hq : q < 8) : Cr (w.setCell ⟨g, 3 + q * 6 + 1, none⟩ (.bool true)) g (rvR1 r q) := by
  have h1 := Vr.set h (3 + q * 6 + 1) (.bool true)
  rw [rdC_set r hq (by omega) _ { r.st q with r := true } rfl] at h1
  exact h1
theorem rcr_set3 {w : World} {g q : Nat} {r : RdV} (h : Cr w g (rvR1 r q)) (hq : q < 8) (a b c : Int) : Cr (((w.setCell ⟨g, 3 + q * 6 + 3, none⟩ (.int .i64 a)).setCell ⟨g, 3 + q * 6 + 3 + 1, none⟩ (.int .i64 b)).setCell ⟨g, 3 + q * 6 + 3 + 2, none⟩ (.int .i64 c)) g (rvR r q (a, b, c)) := by
  have h1 := Vr.set h (3 + q * 6 + 3) (.int .i64 a)
  rw [rdC_set (rvR1 r q) hq (by omega) _ { r.st q with r := true, i := (a, (r.st q).i.2) } (by simp only [rvR1, setSt_at]; rfl)] at h1
  have h2 := Vr.set h1 (3 + q * 6 + 4) (.int .i64 b)
  rw [rdC_set _ hq (by omega) _ { r.st q with r := true, i := (a, b, (r.st q).i.2.2) } (by simp only [setSt_at]; rfl)] at h2
  have h3 := Vr.set h2 (3 + q * 6 + 5) (.int .i64 c)
  rw [rdC_set _ hq (by omega) _ { r.st q with r := true, i := (a, b, c) } (by simp only [setSt_at]; rfl)] at h3
  simp only [rvR1, setSt_set] at h3
  exact h3
theorem Cr.sti {w : World} {p : Nat} {r : RdV} (h : Cr w p r) {q : Nat} (hq : q < 8) : w.cell? ⟨p, 3 + q * 6 + 3, none⟩ = some (.int .i64 (r.st q).i.1) ∧ w.cell? ⟨p, 3 + q * 6 + 3 + 1, none⟩ = some (.int .i64 (r.st q).i.2.1) ∧ w.cell? ⟨p, 3 + q * 6 + 3 + 2, none⟩ = some (.int .i64 (r.st q).i.2.2) := by
  refine ⟨?_, ?_, ?_⟩
  · rw [Vr.cell h, List.getElem?_toArray]; exact rdC_get r hq (j := 3) (by omega)
  · rw [Vr.cell h, List.getElem?_toArray]; exact rdC_get r hq (j := 4) (by omega)
  · rw [Vr.cell h, List.getElem?_toArray]; exact rdC_get r hq (j := 5) (by omega)
set_option maxRecDepth 100000 in
set_option maxHeartbeats 4000000 in
theorem reveal_bad (g : Nat) (pl : Int) (a b c n : Int) (r : RdV) (w : World) (h : Cr w g r) (hk : r.k ≤ 8) (hn : 0 ≤ n ∧ n ≤ 18446744073709551615) (he : ¬ rvE r pl (a, b, c) n = 0) :
    Calls Try.prog 17 #[.pointer (some ⟨g, 0, none⟩), .int .i64 pl, .agg #[.int .i64 a, .int .i64 b, .int .i64 c], .int .u64 n] w (RetCr w g r (rvE r pl (a, b, c) n) r) := by
  have HC := Lib.hid h
  have HF := Lib.hid (rv_first r pl (a, b, c) n)
  have HK := Lib.hid hk
  have HN := Lib.hid hn
  obtain ⟨E, hE⟩ : ∃ E, rvE r pl (a, b, c) n = E := ⟨_, rfl⟩
  rw [hE] at he ⊢
  have HE := Lib.hid hE
  have q1 : (E == 0) = false := by rw [beq_eq_false_iff_ne]; exact he
  clear h hE he hk hn
  go_enter Try.func17, Try.ntmps17
  go_wp2_with fail
  refine (missing_any g pl r _ ((((HC.out.call (b_alloc (Below.refl _ _) _)).call (b_alloc (Below.refl _ _) _)).call (b_alloc (Below.refl _ _) _)).call (b_alloc (Below.refl _ _) _))).mono ?_
  rintro e w1 ⟨cap1, rfl, hA1, hb1⟩
  have HB1 : Below w.heap.size w w1 := by (repeat (first | (with_reducible exact Below.refl _ _) | (with_reducible assumption) | (with_reducible refine b_drew ?_) | (with_reducible refine b_drewN ?_ _) | (with_reducible refine b_alloc ?_ _) | ((with_reducible refine b_set ?_ ?_ _); rotate_left; (focus (first | omega | (simp; done) | (simp; omega) | (simp at *; omega)))) | (with_reducible refine b_call ?_ (by with_reducible assumption))))
  have x4 : w1.cell? ⟨w.heap.size, 0, none⟩ = some (.pointer (some ⟨g, 0, none⟩)) := cell_keep hb1 ((((Vr.new w _ _).alloc _).alloc _).alloc _ |>.cell 0)
  have x5 : w1.cell? ⟨w.heap.size + 1, 0, none⟩ = some (.int .i64 pl) := cell_keep hb1 (((vr_new1 w _ _ _).alloc _).alloc _ |>.cell 0)
  have x60 : w1.cell? ⟨w.heap.size + 1 + 1, 0, none⟩ = some (.int .i64 a) := cell_keep hb1 ((vr_new2 w _ _ _ _).alloc _ |>.cell 0)
  have x61 : w1.cell? ⟨w.heap.size + 1 + 1, 1, none⟩ = some (.int .i64 b) := cell_keep hb1 ((vr_new2 w _ _ _ _).alloc _ |>.cell 1)
  have x62 : w1.cell? ⟨w.heap.size + 1 + 1, 2, none⟩ = some (.int .i64 c) := cell_keep hb1 ((vr_new2 w _ _ _ _).alloc _ |>.cell 2)
  have x7 : w1.cell? ⟨w.heap.size + 1 + 1 + 1, 0, none⟩ = some (.int .u64 n) := cell_keep hb1 ((vr_new3 w _ _ _ _ _).cell 0)
  have K1 := Lib.hid (Keep7.mk x4 x5 x60 x61 x62 x7)
  have HA1 := Lib.hid hA1
  clear hA1 hb1
  go_wp2_with fail
  refine (when_any _ 5 _ ⟨_, _, rfl⟩).mono ?_
  rintro e w2 ⟨cap2, rfl, hA2, hb2⟩
  have K2 := Lib.hid (K1.out.call hb2)
  have HA2 := Lib.hid (hA2 (!r.o) (Ans.mk' (fun args w => run_enter Try.func43 (by kernel_rfl) rfl args w) fun W hW => rv1_any _ g r W (K1.out.call hW).1 ((HC.out.call HB1).call hW)))
  have A12 := Lib.hid (HA1.out.keep hb2)
  obtain ⟨y4, y5, y60, y61, y62, y7⟩ := K2.out
  have HB2 : Below w.heap.size w w2 := b_call HB1 hb2
  clear hA2 HA1 x4 x5 x60 x61 x62 x7 HB1 K1 hb2
  go_wp2_with fail
  refine (when_any _ 21 _ ⟨_, _, rfl⟩).mono ?_
  rintro e w3 ⟨cap3, rfl, hA3, hb3⟩
  have K3 := Lib.hid (K2.out.call hb3)
  have HA3 := Lib.hid (show (if badP r.k pl then (17 : Int) else 0) = 0 → Ans w3 (.func (.func 56) #[] cap3) (.int .i64 (if !(r.st pl.toNat).c then 21 else 0)) from fun hz => by
    obtain ⟨q, rfl, hq⟩ := good_of hz
    refine hA3 (!(r.st q).c) (Ans.mk' (fun args w => run_enter Try.func44 (by kernel_rfl) rfl args w) fun W hW => ?_)
    exact rv2_any _ _ g q r W (K2.out.call hW).1 (K2.out.call hW).2.1 ((HC.out.call HB2).call hW) (by have := HK.out; omega))
  have A13 := Lib.hid (A12.out.keep hb3)
  have A23 := Lib.hid (HA2.out.keep hb3)
  obtain ⟨x4, x5, x60, x61, x62, x7⟩ := K3.out
  have HB3 : Below w.heap.size w w3 := b_call HB2 hb3
  clear hA3 A12 HA2 y4 y5 y60 y61 y62 y7 HB2 K2 hb3
  go_wp2_with fail
  refine (when_any _ 4 _ ⟨_, _, rfl⟩).mono ?_
  rintro e w4 ⟨cap4, rfl, hA4, hb4⟩
  have K4 := Lib.hid (K3.out.call hb4)
  have HA4 := Lib.hid (show (if badP r.k pl then (17 : Int) else 0) = 0 → Ans w4 (.func (.func 56) #[] cap4) (.int .i64 (if (r.st pl.toNat).r then 4 else 0)) from fun hz => by
    obtain ⟨q, rfl, hq⟩ := good_of hz
    refine hA4 (r.st q).r (Ans.mk' (fun args w => run_enter Try.func45 (by kernel_rfl) rfl args w) fun W hW => ?_)
    exact rv3_any _ _ g q r W (K3.out.call hW).1 (K3.out.call hW).2.1 ((HC.out.call HB3).call hW) (by have := HK.out; omega))
  have A14 := Lib.hid (A13.out.keep hb4)
  have A24 := Lib.hid (A23.out.keep hb4)
  have A34 := Lib.hid (fun hz => (HA3.out hz).keep hb4)
  obtain ⟨y4, y5, y60, y61, y62, y7⟩ := K4.out
  have HB4 : Below w.heap.size w w4 := b_call HB3 hb4
  clear hA4 A13 A23 HA3 x4 x5 x60 x61 x62 x7 HB3 K3 hb4
  go_wp2_with fail
  refine (when_any _ 21 _ ⟨_, _, rfl⟩).mono ?_
  rintro e w5 ⟨cap5, rfl, hA5, hb5⟩
  have K5 := Lib.hid (K4.out.call hb5)
  have HA5 := Lib.hid (show (if badP r.k pl then (17 : Int) else 0) = 0 → vcode (a, b, c) = 0 → Ans w5 (.func (.func 56) #[] cap5) (.int .i64 (if cmtI pl.toNat r.t (a, b, c) n != (r.st pl.toNat).h then 21 else 0)) from fun hz hv => by
    obtain ⟨q, rfl, hq⟩ := good_of hz
    refine hA5 (cmtI q r.t (a, b, c) n != (r.st q).h) (Ans.mk' (fun args w => run_enter Try.func47 (by kernel_rfl) rfl args w) fun W hW => ?_)
    obtain ⟨z4, z5, z60, z61, z62, z7⟩ := K4.out.call hW
    exact rv5_any _ _ _ _ g q a b c n r W z4 z5 z60 z61 z62 z7 ((HC.out.call HB4).call hW) (by have := HK.out; omega) (val_of hv) HN.out)
  have HAV := Lib.hid (show Ans w5 (.func (.func 46) #[] #[.pointer (some ⟨w.heap.size + 1 + 1, 0, none⟩)]) (.int .i64 (vcode (a, b, c))) from Ans.mk' (fun args w => run_enter Try.func46 (by kernel_rfl) rfl args w) fun W hW => by
    obtain ⟨z4, z5, z60, z61, z62, z7⟩ := K5.out.call hW
    exact rv4_any _ a b c W z60 z61 z62)
  have A15 := Lib.hid (A14.out.keep hb5)
  have A25 := Lib.hid (A24.out.keep hb5)
  have A35 := Lib.hid (fun hz => (A34.out hz).keep hb5)
  have A45 := Lib.hid (fun hz => (HA4.out hz).keep hb5)
  have HB5 : Below w.heap.size w w5 := b_call HB4 hb5
  clear hA5 A14 A24 A34 HA4 y4 y5 y60 y61 y62 y7 HB4 K4 hb5
  go_wp2_with fail
  have hbA := Lib.hid (fun o => b_alloc (Below.refl w5.heap.size w5) o)
  refine (first_any _ 6 6 _ (rvCodes r pl (a, b, c) n) _ (rd_lit w5 _ _ rfl rfl) rfl (by omega) (ans6 (A15.out.keep (hbA.out _)) (A25.out.keep (hbA.out _)) (fun hz => (A35.out hz).keep (hbA.out _)) (fun hz => (A45.out hz).keep (hbA.out _)) (HAV.out.keep (hbA.out _)) (fun hz hv => (HA5.out hz hv).keep (hbA.out _)))).mono ?_
  rintro e w6 ⟨rfl, hb6⟩
  have hb6' : Below w5.heap.size w5 w6 := by (repeat (first | (with_reducible exact Below.refl _ _) | (with_reducible assumption) | (with_reducible refine b_drew ?_) | (with_reducible refine b_drewN ?_ _) | (with_reducible refine b_alloc ?_ _) | ((with_reducible refine b_set ?_ ?_ _); rotate_left; (focus (first | omega | (simp; done) | (simp; omega) | (simp at *; omega)))) | (with_reducible refine b_call ?_ (by with_reducible assumption))))
  have K6 := Lib.hid (K5.out.call hb6')
  have HB6 : Below w.heap.size w w6 := b_call HB5 hb6'
  rw [HF.out, HE.out]
  clear A15 A25 A35 A45 HAV HA5 hbA hb6 hb6' K5 HB5
  go_wp2
  go_ret
  exact ⟨rfl, HC.out.call HB6, Only.of_below HB6 _ (fun k h1 h2 => by omega)⟩
set_option maxRecDepth 100000 in
set_option maxHeartbeats 4000000 in
theorem reveal_ok (g : Nat) (q : Nat) (a b c n : Int) (r : RdV) (w : World) (h : Cr w g r) (hk : r.k ≤ 8) (hn : 0 ≤ n ∧ n ≤ 18446744073709551615) (he : rvE r q (a, b, c) n = 0) :
    Calls Try.prog 17 #[.pointer (some ⟨g, 0, none⟩), .int .i64 q, .agg #[.int .i64 a, .int .i64 b, .int .i64 c], .int .u64 n] w (RetCr w g r 0 (rvR r q (a, b, c))) := by
  have HC := Lib.hid h
  have HF := Lib.hid (rv_first r q (a, b, c) n)
  have HK := Lib.hid hk
  have HN := Lib.hid hn
  have HE := Lib.hid he
  obtain ⟨hq, hq8⟩ : q < r.k ∧ q < 8 := by
    unfold rvE badP at he
    by_cases hc : (q : Int) < 0 ∨ (r.k : Int) ≤ q
    · rw [decide_eq_true hc] at he
      simp at he
    · omega
  clear h he hk hn hq
  go_enter Try.func17, Try.ntmps17
  go_wp2_with fail
  refine (missing_any g q r _ ((((HC.out.call (b_alloc (Below.refl _ _) _)).call (b_alloc (Below.refl _ _) _)).call (b_alloc (Below.refl _ _) _)).call (b_alloc (Below.refl _ _) _))).mono ?_
  rintro e w1 ⟨cap1, rfl, hA1, hb1⟩
  have HB1 : Below w.heap.size w w1 := by (repeat (first | (with_reducible exact Below.refl _ _) | (with_reducible assumption) | (with_reducible refine b_drew ?_) | (with_reducible refine b_drewN ?_ _) | (with_reducible refine b_alloc ?_ _) | ((with_reducible refine b_set ?_ ?_ _); rotate_left; (focus (first | omega | (simp; done) | (simp; omega) | (simp at *; omega)))) | (with_reducible refine b_call ?_ (by with_reducible assumption))))
  have x4 : w1.cell? ⟨w.heap.size, 0, none⟩ = some (.pointer (some ⟨g, 0, none⟩)) := cell_keep hb1 ((((Vr.new w _ _).alloc _).alloc _).alloc _ |>.cell 0)
  have x5 : w1.cell? ⟨w.heap.size + 1, 0, none⟩ = some (.int .i64 q) := cell_keep hb1 (((vr_new1 w _ _ _).alloc _).alloc _ |>.cell 0)
  have x60 : w1.cell? ⟨w.heap.size + 1 + 1, 0, none⟩ = some (.int .i64 a) := cell_keep hb1 ((vr_new2 w _ _ _ _).alloc _ |>.cell 0)
  have x61 : w1.cell? ⟨w.heap.size + 1 + 1, 1, none⟩ = some (.int .i64 b) := cell_keep hb1 ((vr_new2 w _ _ _ _).alloc _ |>.cell 1)
  have x62 : w1.cell? ⟨w.heap.size + 1 + 1, 2, none⟩ = some (.int .i64 c) := cell_keep hb1 ((vr_new2 w _ _ _ _).alloc _ |>.cell 2)
  have x7 : w1.cell? ⟨w.heap.size + 1 + 1 + 1, 0, none⟩ = some (.int .u64 n) := cell_keep hb1 ((vr_new3 w _ _ _ _ _).cell 0)
  have K1 := Lib.hid (Keep7.mk x4 x5 x60 x61 x62 x7)
  have HA1 := Lib.hid hA1
  clear hA1 hb1
  go_wp2_with fail
  refine (when_any _ 5 _ ⟨_, _, rfl⟩).mono ?_
  rintro e w2 ⟨cap2, rfl, hA2, hb2⟩
  have K2 := Lib.hid (K1.out.call hb2)
  have HA2 := Lib.hid (hA2 (!r.o) (Ans.mk' (fun args w => run_enter Try.func43 (by kernel_rfl) rfl args w) fun W hW => rv1_any _ g r W (K1.out.call hW).1 ((HC.out.call HB1).call hW)))
  have A12 := Lib.hid (HA1.out.keep hb2)
  obtain ⟨y4, y5, y60, y61, y62, y7⟩ := K2.out
  have HB2 : Below w.heap.size w w2 := b_call HB1 hb2
  clear hA2 HA1 x4 x5 x60 x61 x62 x7 HB1 K1 hb2
  go_wp2_with fail
  refine (when_any _ 21 _ ⟨_, _, rfl⟩).mono ?_
  rintro e w3 ⟨cap3, rfl, hA3, hb3⟩
  have K3 := Lib.hid (K2.out.call hb3)
  have HA3 := Lib.hid (show (if badP r.k q then (17 : Int) else 0) = 0 → Ans w3 (.func (.func 56) #[] cap3) (.int .i64 (if !(r.st q).c then 21 else 0)) from fun hz => by
    refine hA3 (!(r.st q).c) (Ans.mk' (fun args w => run_enter Try.func44 (by kernel_rfl) rfl args w) fun W hW => ?_)
    exact rv2_any _ _ g q r W (K2.out.call hW).1 (K2.out.call hW).2.1 ((HC.out.call HB2).call hW) hq8)
  have A13 := Lib.hid (A12.out.keep hb3)
  have A23 := Lib.hid (HA2.out.keep hb3)
  obtain ⟨x4, x5, x60, x61, x62, x7⟩ := K3.out
  have HB3 : Below w.heap.size w w3 := b_call HB2 hb3
  clear hA3 A12 HA2 y4 y5 y60 y61 y62 y7 HB2 K2 hb3
  go_wp2_with fail
  refine (when_any _ 4 _ ⟨_, _, rfl⟩).mono ?_
  rintro e w4 ⟨cap4, rfl, hA4, hb4⟩
  have K4 := Lib.hid (K3.out.call hb4)
  have HA4 := Lib.hid (show (if badP r.k q then (17 : Int) else 0) = 0 → Ans w4 (.func (.func 56) #[] cap4) (.int .i64 (if (r.st q).r then 4 else 0)) from fun hz => by
    refine hA4 (r.st q).r (Ans.mk' (fun args w => run_enter Try.func45 (by kernel_rfl) rfl args w) fun W hW => ?_)
    exact rv3_any _ _ g q r W (K3.out.call hW).1 (K3.out.call hW).2.1 ((HC.out.call HB3).call hW) hq8)
  have A14 := Lib.hid (A13.out.keep hb4)
  have A24 := Lib.hid (A23.out.keep hb4)
  have A34 := Lib.hid (fun hz => (HA3.out hz).keep hb4)
  obtain ⟨y4, y5, y60, y61, y62, y7⟩ := K4.out
  have HB4 : Below w.heap.size w w4 := b_call HB3 hb4
  clear hA4 A13 A23 HA3 x4 x5 x60 x61 x62 x7 HB3 K3 hb4
  go_wp2_with fail
  refine (when_any _ 21 _ ⟨_, _, rfl⟩).mono ?_
  rintro e w5 ⟨cap5, rfl, hA5, hb5⟩
  have K5 := Lib.hid (K4.out.call hb5)
  have HA5 := Lib.hid (show (if badP r.k q then (17 : Int) else 0) = 0 → vcode (a, b, c) = 0 → Ans w5 (.func (.func 56) #[] cap5) (.int .i64 (if cmtI q r.t (a, b, c) n != (r.st q).h then 21 else 0)) from fun hz hv => by
    refine hA5 (cmtI q r.t (a, b, c) n != (r.st q).h) (Ans.mk' (fun args w => run_enter Try.func47 (by kernel_rfl) rfl args w) fun W hW => ?_)
    obtain ⟨z4, z5, z60, z61, z62, z7⟩ := K4.out.call hW
    exact rv5_any _ _ _ _ g q a b c n r W z4 z5 z60 z61 z62 z7 ((HC.out.call HB4).call hW) hq8 (val_of hv) HN.out)
  have HAV := Lib.hid (show Ans w5 (.func (.func 46) #[] #[.pointer (some ⟨w.heap.size + 1 + 1, 0, none⟩)]) (.int .i64 (vcode (a, b, c))) from Ans.mk' (fun args w => run_enter Try.func46 (by kernel_rfl) rfl args w) fun W hW => by
    obtain ⟨z4, z5, z60, z61, z62, z7⟩ := K5.out.call hW
    exact rv4_any _ a b c W z60 z61 z62)
  have A15 := Lib.hid (A14.out.keep hb5)
  have A25 := Lib.hid (A24.out.keep hb5)
  have A35 := Lib.hid (fun hz => (A34.out hz).keep hb5)
  have A45 := Lib.hid (fun hz => (HA4.out hz).keep hb5)
  have HB5 : Below w.heap.size w w5 := b_call HB4 hb5
  clear hA5 A14 A24 A34 HA4 y4 y5 y60 y61 y62 y7 HB4 K4 hb5
  go_wp2_with fail
  have hbA := Lib.hid (fun o => b_alloc (Below.refl w5.heap.size w5) o)
  refine (first_any _ 6 6 _ (rvCodes r q (a, b, c) n) _ (rd_lit w5 _ _ rfl rfl) rfl (by omega) (ans6 (A15.out.keep (hbA.out _)) (A25.out.keep (hbA.out _)) (fun hz => (A35.out hz).keep (hbA.out _)) (fun hz => (A45.out hz).keep (hbA.out _)) (HAV.out.keep (hbA.out _)) (fun hz hv => (HA5.out hz hv).keep (hbA.out _)))).mono ?_
  rintro e w6 ⟨rfl, hb6⟩
  have hb6' : Below w5.heap.size w5 w6 := by (repeat (first | (with_reducible exact Below.refl _ _) | (with_reducible assumption) | (with_reducible refine b_drew ?_) | (with_reducible refine b_drewN ?_ _) | (with_reducible refine b_alloc ?_ _) | ((with_reducible refine b_set ?_ ?_ _); rotate_left; (focus (first | omega | (simp; done) | (simp; omega) | (simp at *; omega)))) | (with_reducible refine b_call ?_ (by with_reducible assumption))))
  have K6 := Lib.hid (K5.out.call hb6')
  have HB6 : Below w.heap.size w w6 := b_call HB5 hb6'
  rw [HF.out, HE.out]
  clear A15 A25 A35 A45 HAV HA5 hbA hb6 hb6' K5 HB5
  have HR := Lib.hid (HC.out.call HB6)
  obtain ⟨x4, x5, x60, x61, x62, x7⟩ := K6.out
  have hp4 := HR.out.facts.2.2.2.1
  have hp0 := HC.out.facts.2.2.2.1
  have b1 : (0 : Int) ≤ (q : Int) := by omega
  have b2 : (q : Int) < 8 := by omega
  have hn4 : ¬ w.heap.size = g := by omega
  have hn5 : ¬ w.heap.size + 1 = g := by omega
  have hn6 : ¬ w.heap.size + 1 + 1 = g := by omega
  clear x7 K6 HF HE
  go_wp2
  refine wp_region_any (by kernel_rfl) ?_
  change wpAny _ _ _ _ _ _ _ (World.drew _)
  refine wpAny_go (fun A0 L aa w => ∃ v26 v27 v28 v29 v30 v31 v32 v33 v34 v35 v36 v37 v38 : Value, aa = fr A0 [(26, v26), (27, v27), (28, v28), (29, v29), (30, v30), (31, v31), (32, v32), (33, v33), (34, v34), (35, v35), (36, v36), (37, v37), (38, v38)] ∧ (L 14 = true → L 9 = true) ∧ (Only (· = g) w6 w) ∧ (Hid (Cr w g (if L 14 then rvR r q (a, b, c) else if L 9 then rvR1 r q else r))) ∧ Hid (L 0 = true → v26 = Value.pointer (some ⟨g, 0, none⟩)) ∧ Hid (L 1 = true → v27 = Value.int .i64 q) ∧ Hid (L 2 = true → v28 = Value.pointer (some ⟨g, 0, none⟩)) ∧ Hid (L 3 = true → v29 = Value.int .i64 q) ∧ Hid (L 4 = true → v30 = Value.agg #[.int .i64 a, .int .i64 b, .int .i64 c]) ∧ Hid (L 5 = true → v31 = Value.pointer (some ⟨g, 0, none⟩)) ∧ Hid (L 6 = true → v32 = Value.pointer (some ⟨g, 3, none⟩)) ∧ Hid (L 7 = true → v33 = Value.pointer (some ⟨g, 3 + q * 6, none⟩)) ∧ Hid (L 8 = true → v34 = Value.pointer (some ⟨g, 3 + q * 6 + 1, none⟩)) ∧ Hid (L 10 = true → v35 = Value.pointer (some ⟨g, 0, none⟩)) ∧ Hid (L 11 = true → v36 = Value.pointer (some ⟨g, 3, none⟩)) ∧ Hid (L 12 = true → v37 = Value.pointer (some ⟨g, 3 + q * 6, none⟩)) ∧ Hid (L 13 = true → v38 = Value.pointer (some ⟨g, 3 + q * 6 + 3, none⟩))) [0, 1, 2, 3, 4, 5, 6, 7, 8, 9, 10, 11, 12, 13, 14] (by kernel_rfl) (by kernel_rfl) ?a1I ?a1S ?a1D
  case a1I =>
    refine ⟨?v26, ?v27, ?v28, ?v29, ?v30, ?v31, ?v32, ?v33, ?v34, ?v35, ?v36, ?v37, ?v38, ?fr, no_yet (by kernel_rfl), (Only.refl _ _).drew, HR, Lib.hid (no_yet (by kernel_rfl)), Lib.hid (no_yet (by kernel_rfl)), Lib.hid (no_yet (by kernel_rfl)), Lib.hid (no_yet (by kernel_rfl)), Lib.hid (no_yet (by kernel_rfl)), Lib.hid (no_yet (by kernel_rfl)), Lib.hid (no_yet (by kernel_rfl)), Lib.hid (no_yet (by kernel_rfl)), Lib.hid (no_yet (by kernel_rfl)), Lib.hid (no_yet (by kernel_rfl)), Lib.hid (no_yet (by kernel_rfl)), Lib.hid (no_yet (by kernel_rfl)), Lib.hid (no_yet (by kernel_rfl))⟩
    case fr => (simp only [fr, List.foldl_cons, List.foldl_nil, Act.put, List.setIfInBounds_toArray, List.set_cons_zero, List.set_cons_succ]; rfl)
  case a1S =>
    refine Steps.go (i := 0) (o := _) rfl ?s0 (Steps.go (i := 1) (o := _) rfl ?s1 (Steps.go (i := 2) (o := _) rfl ?s2 (Steps.go (i := 3) (o := _) rfl ?s3 (Steps.go (i := 4) (o := _) rfl ?s4 (Steps.go (i := 5) (o := _) rfl ?s5 (Steps.go (i := 6) (o := _) rfl ?s6 (Steps.go (i := 7) (o := _) rfl ?s7 (Steps.go (i := 8) (o := _) rfl ?s8 (Steps.go (i := 9) (o := _) rfl ?s9 (Steps.go (i := 10) (o := _) rfl ?s10 (Steps.go (i := 11) (o := _) rfl ?s11 (Steps.go (i := 12) (o := _) rfl ?s12 (Steps.go (i := 13) (o := _) rfl ?s13 (Steps.go (i := 14) (o := _) rfl ?s14 Steps.nil))))))))))))))
    · rintro L aa w h0 hd ⟨v26, v27, v28, v29, v30, v31, v32, v33, v34, v35, v36, v37, v38, rfl, hX, hO, hV, f0, f1, f2, f3, f4, f5, f6, f7, f8, f10, f11, f12, f13⟩ K hK
      simp only [fr, List.foldl_cons, List.foldl_nil, Act.put, List.setIfInBounds_toArray, List.set_cons_zero, List.set_cons_succ]
      have z4 := cell_keepG hO hn4 x4
      have z5 := cell_keepG hO hn5 x5
      go_simp
      exact hK _ _ ⟨(Value.pointer (some ⟨g, 0, none⟩)), v27, v28, v29, v30, v31, v32, v33, v34, v35, v36, v37, v38, (by simp only [fr, List.foldl_cons, List.foldl_nil, Act.put, List.setIfInBounds_toArray, List.set_cons_zero, List.set_cons_succ]), hX, hO, hV, Lib.hid (fun _ => rfl), f1, f2, f3, f4, f5, f6, f7, f8, f10, f11, f12, f13⟩
    · rintro L aa w h0 hd ⟨v26, v27, v28, v29, v30, v31, v32, v33, v34, v35, v36, v37, v38, rfl, hX, hO, hV, f0, f1, f2, f3, f4, f5, f6, f7, f8, f10, f11, f12, f13⟩ K hK
      simp only [fr, List.foldl_cons, List.foldl_nil, Act.put, List.setIfInBounds_toArray, List.set_cons_zero, List.set_cons_succ]
      have z4 := cell_keepG hO hn4 x4
      have z5 := cell_keepG hO hn5 x5
      go_simp
      exact hK _ _ ⟨v26, (Value.int .i64 q), v28, v29, v30, v31, v32, v33, v34, v35, v36, v37, v38, (by simp only [fr, List.foldl_cons, List.foldl_nil, Act.put, List.setIfInBounds_toArray, List.set_cons_zero, List.set_cons_succ]), hX, hO, hV, f0, Lib.hid (fun _ => rfl), f2, f3, f4, f5, f6, f7, f8, f10, f11, f12, f13⟩
    · rintro L aa w h0 hd ⟨v26, v27, v28, v29, v30, v31, v32, v33, v34, v35, v36, v37, v38, rfl, hX, hO, hV, f0, f1, f2, f3, f4, f5, f6, f7, f8, f10, f11, f12, f13⟩ K hK
      simp only [fr, List.foldl_cons, List.foldl_nil, Act.put, List.setIfInBounds_toArray, List.set_cons_zero, List.set_cons_succ]
      have z4 := cell_keepG hO hn4 x4
      have z5 := cell_keepG hO hn5 x5
      go_simp
      exact hK _ _ ⟨v26, v27, (Value.pointer (some ⟨g, 0, none⟩)), v29, v30, v31, v32, v33, v34, v35, v36, v37, v38, (by simp only [fr, List.foldl_cons, List.foldl_nil, Act.put, List.setIfInBounds_toArray, List.set_cons_zero, List.set_cons_succ]), hX, hO, hV, f0, f1, Lib.hid (fun _ => rfl), f3, f4, f5, f6, f7, f8, f10, f11, f12, f13⟩
    · rintro L aa w h0 hd ⟨v26, v27, v28, v29, v30, v31, v32, v33, v34, v35, v36, v37, v38, rfl, hX, hO, hV, f0, f1, f2, f3, f4, f5, f6, f7, f8, f10, f11, f12, f13⟩ K hK
      simp only [fr, List.foldl_cons, List.foldl_nil, Act.put, List.setIfInBounds_toArray, List.set_cons_zero, List.set_cons_succ]
      have z4 := cell_keepG hO hn4 x4
      have z5 := cell_keepG hO hn5 x5
      go_simp
      exact hK _ _ ⟨v26, v27, v28, (Value.int .i64 q), v30, v31, v32, v33, v34, v35, v36, v37, v38, (by simp only [fr, List.foldl_cons, List.foldl_nil, Act.put, List.setIfInBounds_toArray, List.set_cons_zero, List.set_cons_succ]), hX, hO, hV, f0, f1, f2, Lib.hid (fun _ => rfl), f4, f5, f6, f7, f8, f10, f11, f12, f13⟩
    · rintro L aa w h0 hd ⟨v26, v27, v28, v29, v30, v31, v32, v33, v34, v35, v36, v37, v38, rfl, hX, hO, hV, f0, f1, f2, f3, f4, f5, f6, f7, f8, f10, f11, f12, f13⟩ K hK
      simp only [fr, List.foldl_cons, List.foldl_nil, Act.put, List.setIfInBounds_toArray, List.set_cons_zero, List.set_cons_succ]
      have z60 := cell_keepG hO hn6 x60
      have z61 := cell_keepG hO hn6 x61
      have z62 := cell_keepG hO hn6 x62
      go_simp
      exact hK _ _ ⟨v26, v27, v28, v29, (Value.agg #[.int .i64 a, .int .i64 b, .int .i64 c]), v31, v32, v33, v34, v35, v36, v37, v38, (by simp only [fr, List.foldl_cons, List.foldl_nil, Act.put, List.setIfInBounds_toArray, List.set_cons_zero, List.set_cons_succ]), hX, hO, hV, f0, f1, f2, f3, Lib.hid (fun _ => rfl), f5, f6, f7, f8, f10, f11, f12, f13⟩
    · rintro L aa w h0 hd ⟨v26, v27, v28, v29, v30, v31, v32, v33, v34, v35, v36, v37, v38, rfl, hX, hO, hV, f0, f1, f2, f3, f4, f5, f6, f7, f8, f10, f11, f12, f13⟩ K hK
      obtain rfl := f0.out (hd 0 (by kernel_rfl))
      simp only [fr, List.foldl_cons, List.foldl_nil, Act.put, List.setIfInBounds_toArray, List.set_cons_zero, List.set_cons_succ]
      go_simp
      exact hK _ _ ⟨(Value.pointer (some ⟨g, 0, none⟩)), v27, v28, v29, v30, (Value.pointer (some ⟨g, 0, none⟩)), v32, v33, v34, v35, v36, v37, v38, (by simp only [fr, List.foldl_cons, List.foldl_nil, Act.put, List.setIfInBounds_toArray, List.set_cons_zero, List.set_cons_succ]), hX, hO, hV, f0, f1, f2, f3, f4, Lib.hid (fun _ => rfl), f6, f7, f8, f10, f11, f12, f13⟩
    · rintro L aa w h0 hd ⟨v26, v27, v28, v29, v30, v31, v32, v33, v34, v35, v36, v37, v38, rfl, hX, hO, hV, f0, f1, f2, f3, f4, f5, f6, f7, f8, f10, f11, f12, f13⟩ K hK
      obtain rfl := f5.out (hd 5 (by kernel_rfl))
      simp only [fr, List.foldl_cons, List.foldl_nil, Act.put, List.setIfInBounds_toArray, List.set_cons_zero, List.set_cons_succ]
      go_simp
      exact hK _ _ ⟨v26, v27, v28, v29, v30, (Value.pointer (some ⟨g, 0, none⟩)), (Value.pointer (some ⟨g, 3, none⟩)), v33, v34, v35, v36, v37, v38, (by simp only [fr, List.foldl_cons, List.foldl_nil, Act.put, List.setIfInBounds_toArray, List.set_cons_zero, List.set_cons_succ]), hX, hO, hV, f0, f1, f2, f3, f4, f5, Lib.hid (fun _ => rfl), f7, f8, f10, f11, f12, f13⟩
    · rintro L aa w h0 hd ⟨v26, v27, v28, v29, v30, v31, v32, v33, v34, v35, v36, v37, v38, rfl, hX, hO, hV, f0, f1, f2, f3, f4, f5, f6, f7, f8, f10, f11, f12, f13⟩ K hK
      obtain rfl := f6.out (hd 6 (by kernel_rfl))
      obtain rfl := f1.out (hd 1 (by kernel_rfl))
      simp only [fr, List.foldl_cons, List.foldl_nil, Act.put, List.setIfInBounds_toArray, List.set_cons_zero, List.set_cons_succ]
      go_simp
      exact hK _ _ ⟨v26, (Value.int .i64 q), v28, v29, v30, v31, (Value.pointer (some ⟨g, 3, none⟩)), (Value.pointer (some ⟨g, 3 + q * 6, none⟩)), v34, v35, v36, v37, v38, (by simp only [fr, List.foldl_cons, List.foldl_nil, Act.put, List.setIfInBounds_toArray, List.set_cons_zero, List.set_cons_succ]), hX, hO, hV, f0, f1, f2, f3, f4, f5, f6, Lib.hid (fun _ => rfl), f8, f10, f11, f12, f13⟩
    · rintro L aa w h0 hd ⟨v26, v27, v28, v29, v30, v31, v32, v33, v34, v35, v36, v37, v38, rfl, hX, hO, hV, f0, f1, f2, f3, f4, f5, f6, f7, f8, f10, f11, f12, f13⟩ K hK
      obtain rfl := f7.out (hd 7 (by kernel_rfl))
      simp only [fr, List.foldl_cons, List.foldl_nil, Act.put, List.setIfInBounds_toArray, List.set_cons_zero, List.set_cons_succ]
      go_simp
      exact hK _ _ ⟨v26, v27, v28, v29, v30, v31, v32, (Value.pointer (some ⟨g, 3 + q * 6, none⟩)), (Value.pointer (some ⟨g, 3 + q * 6 + 1, none⟩)), v35, v36, v37, v38, (by simp only [fr, List.foldl_cons, List.foldl_nil, Act.put, List.setIfInBounds_toArray, List.set_cons_zero, List.set_cons_succ]), hX, hO, hV, f0, f1, f2, f3, f4, f5, f6, f7, Lib.hid (fun _ => rfl), f10, f11, f12, f13⟩
    · rintro L aa w h0 hd ⟨v26, v27, v28, v29, v30, v31, v32, v33, v34, v35, v36, v37, v38, rfl, hX, hO, hV, f0, f1, f2, f3, f4, f5, f6, f7, f8, f10, f11, f12, f13⟩ K hK
      obtain rfl := f8.out (hd 8 (by kernel_rfl))
      simp only [fr, List.foldl_cons, List.foldl_nil, Act.put, List.setIfInBounds_toArray, List.set_cons_zero, List.set_cons_succ]
      have e14 : L 14 = false := by rcases h : L 14 with _ | _ <;> first | rfl | exact absurd (hX h) (by simp [h0])
      have hV1 := hV.out
      simp only [e14, h0, Bool.false_eq_true, if_false] at hV1
      obtain ⟨_, z1, _⟩ := hV1.st hq8
      have hf := hV1.facts.2.2.2.2
      have HV1 := Lib.hid hV1
      clear hV1
      go_simp
      exact hK _ _ ⟨v26, v27, v28, v29, v30, v31, v32, v33, (Value.pointer (some ⟨g, 3 + q * 6 + 1, none⟩)), v35, v36, v37, v38, (by simp only [fr, List.foldl_cons, List.foldl_nil, Act.put, List.setIfInBounds_toArray, List.set_cons_zero, List.set_cons_succ]), (fun _ => rfl), o_set hO _ _, Lib.hid (by have := rcr_set1 HV1.out hq8; simpa [upd, e14] using this), f0, f1, f2, f3, f4, f5, f6, f7, f8, f10, f11, f12, f13⟩
    · rintro L aa w h0 hd ⟨v26, v27, v28, v29, v30, v31, v32, v33, v34, v35, v36, v37, v38, rfl, hX, hO, hV, f0, f1, f2, f3, f4, f5, f6, f7, f8, f10, f11, f12, f13⟩ K hK
      obtain rfl := f2.out (hd 2 (by kernel_rfl))
      simp only [fr, List.foldl_cons, List.foldl_nil, Act.put, List.setIfInBounds_toArray, List.set_cons_zero, List.set_cons_succ]
      go_simp
      exact hK _ _ ⟨v26, v27, (Value.pointer (some ⟨g, 0, none⟩)), v29, v30, v31, v32, v33, v34, (Value.pointer (some ⟨g, 0, none⟩)), v36, v37, v38, (by simp only [fr, List.foldl_cons, List.foldl_nil, Act.put, List.setIfInBounds_toArray, List.set_cons_zero, List.set_cons_succ]), hX, hO, hV, f0, f1, f2, f3, f4, f5, f6, f7, f8, Lib.hid (fun _ => rfl), f11, f12, f13⟩
    · rintro L aa w h0 hd ⟨v26, v27, v28, v29, v30, v31, v32, v33, v34, v35, v36, v37, v38, rfl, hX, hO, hV, f0, f1, f2, f3, f4, f5, f6, f7, f8, f10, f11, f12, f13⟩ K hK
      obtain rfl := f10.out (hd 10 (by kernel_rfl))
      simp only [fr, List.foldl_cons, List.foldl_nil, Act.put, List.setIfInBounds_toArray, List.set_cons_zero, List.set_cons_succ]
      go_simp
      exact hK _ _ ⟨v26, v27, v28, v29, v30, v31, v32, v33, v34, (Value.pointer (some ⟨g, 0, none⟩)), (Value.pointer (some ⟨g, 3, none⟩)), v37, v38, (by simp only [fr, List.foldl_cons, List.foldl_nil, Act.put, List.setIfInBounds_toArray, List.set_cons_zero, List.set_cons_succ]), hX, hO, hV, f0, f1, f2, f3, f4, f5, f6, f7, f8, f10, Lib.hid (fun _ => rfl), f12, f13⟩
    · rintro L aa w h0 hd ⟨v26, v27, v28, v29, v30, v31, v32, v33, v34, v35, v36, v37, v38, rfl, hX, hO, hV, f0, f1, f2, f3, f4, f5, f6, f7, f8, f10, f11, f12, f13⟩ K hK
      obtain rfl := f11.out (hd 11 (by kernel_rfl))
      obtain rfl := f3.out (hd 3 (by kernel_rfl))
      simp only [fr, List.foldl_cons, List.foldl_nil, Act.put, List.setIfInBounds_toArray, List.set_cons_zero, List.set_cons_succ]
      go_simp
      exact hK _ _ ⟨v26, v27, v28, (Value.int .i64 q), v30, v31, v32, v33, v34, v35, (Value.pointer (some ⟨g, 3, none⟩)), (Value.pointer (some ⟨g, 3 + q * 6, none⟩)), v38, (by simp only [fr, List.foldl_cons, List.foldl_nil, Act.put, List.setIfInBounds_toArray, List.set_cons_zero, List.set_cons_succ]), hX, hO, hV, f0, f1, f2, f3, f4, f5, f6, f7, f8, f10, f11, Lib.hid (fun _ => rfl), f13⟩
    · rintro L aa w h0 hd ⟨v26, v27, v28, v29, v30, v31, v32, v33, v34, v35, v36, v37, v38, rfl, hX, hO, hV, f0, f1, f2, f3, f4, f5, f6, f7, f8, f10, f11, f12, f13⟩ K hK
      obtain rfl := f12.out (hd 12 (by kernel_rfl))
      simp only [fr, List.foldl_cons, List.foldl_nil, Act.put, List.setIfInBounds_toArray, List.set_cons_zero, List.set_cons_succ]
      go_simp
      exact hK _ _ ⟨v26, v27, v28, v29, v30, v31, v32, v33, v34, v35, v36, (Value.pointer (some ⟨g, 3 + q * 6, none⟩)), (Value.pointer (some ⟨g, 3 + q * 6 + 3, none⟩)), (by simp only [fr, List.foldl_cons, List.foldl_nil, Act.put, List.setIfInBounds_toArray, List.set_cons_zero, List.set_cons_succ]), hX, hO, hV, f0, f1, f2, f3, f4, f5, f6, f7, f8, f10, f11, f12, Lib.hid (fun _ => rfl)⟩
    · rintro L aa w h0 hd ⟨v26, v27, v28, v29, v30, v31, v32, v33, v34, v35, v36, v37, v38, rfl, hX, hO, hV, f0, f1, f2, f3, f4, f5, f6, f7, f8, f10, f11, f12, f13⟩ K hK
      obtain rfl := f13.out (hd 13 (by kernel_rfl))
      obtain rfl := f4.out (hd 4 (by kernel_rfl))
      have d9 := hd 9 (by kernel_rfl)
      simp only [fr, List.foldl_cons, List.foldl_nil, Act.put, List.setIfInBounds_toArray, List.set_cons_zero, List.set_cons_succ]
      have hV1 := hV.out
      simp only [d9, h0, Bool.false_eq_true, if_false, if_true] at hV1
      obtain ⟨z0, z1, z2⟩ := hV1.sti hq8
      have hf := hV1.facts.2.2.2.2
      have HV1 := Lib.hid hV1
      clear hV1
      go_simp
      exact hK _ _ ⟨v26, v27, v28, v29, (Value.agg #[.int .i64 a, .int .i64 b, .int .i64 c]), v31, v32, v33, v34, v35, v36, v37, (Value.pointer (some ⟨g, 3 + q * 6 + 3, none⟩)), (by simp only [fr, List.foldl_cons, List.foldl_nil, Act.put, List.setIfInBounds_toArray, List.set_cons_zero, List.set_cons_succ]), (fun _ => d9), o_set (o_set (o_set hO _ _) _ _) _ _, Lib.hid (by have := rcr_set3 HV1.out hq8 a b c; simpa [upd] using this), f0, f1, f2, f3, f4, f5, f6, f7, f8, f10, f11, f12, f13⟩
  case a1D =>
    rintro L aa w hL ⟨v26, v27, v28, v29, v30, v31, v32, v33, v34, v35, v36, v37, v38, rfl, hX, hO, hV, f0, f1, f2, f3, f4, f5, f6, f7, f8, f10, f11, f12, f13⟩
    obtain rfl := f0.out (hL 0 (by decide))
    obtain rfl := f1.out (hL 1 (by decide))
    obtain rfl := f2.out (hL 2 (by decide))
    obtain rfl := f3.out (hL 3 (by decide))
    obtain rfl := f4.out (hL 4 (by decide))
    obtain rfl := f5.out (hL 5 (by decide))
    obtain rfl := f6.out (hL 6 (by decide))
    obtain rfl := f7.out (hL 7 (by decide))
    obtain rfl := f8.out (hL 8 (by decide))
    obtain rfl := f10.out (hL 10 (by decide))
    obtain rfl := f11.out (hL 11 (by decide))
    obtain rfl := f12.out (hL 12 (by decide))
    obtain rfl := f13.out (hL 13 (by decide))
    have l9 := hL 9 (by decide)
    have l14 := hL 14 (by decide)
    simp only [fr, List.foldl_cons, List.foldl_nil, Act.put, List.setIfInBounds_toArray, List.set_cons_zero, List.set_cons_succ]
    have hV1 := hV.out
    simp only [l14, if_true] at hV1
    go_wp2
    go_ret
    exact ⟨rfl, hV1, o_call (Only.of_below HB6 _ (fun k h1 h2 => by omega)) hO⟩
end Go.Proofs.Ytojmkfhinkmhaaa
