/-
  WHAT IS PROVED HERE: what the listed table of package input holds in memory, and Decode by it. No condition but the table's reading.
-/
import Derived.Test.YtlaeambhdpagdaaDoorInputA
import Derived.Lib.LaidTab
import Derived.Deep.DeepHandedRow
namespace Go.Proofs.YtlaeambhdpagdaaDoor
set_option linter.unusedVariables false
open Go.ChangeShapes Go.WideShapes Go.ChangeAt Go.RowKit

/-- The table's cells: entry k at 3k. -/
def Tab (w : World) : Prop := ∀ k : Nat, k < 36 → w.cell? ⟨0, k * 3, none⟩ = some (.int .i64 (dec k).1) ∧ w.cell? ⟨0, k * 3 + 1, none⟩ = some (.int .i64 (dec k).2.1) ∧ w.cell? ⟨0, k * 3 + 2, none⟩ = some (.int .i64 (dec k).2.2)
theorem Tab.lt {w : World} (h : Tab w) : 0 < w.heap.size := World.block_lt_of_cell? w ⟨0, 0 * 3, none⟩ (h 0 (by omega)).1
theorem Tab.below {w w' : World} (h : Tab w) (hb : Below w.heap.size w w') : Tab w' := fun k hk => by
  have hl := h.lt
  obtain ⟨a, b, c⟩ := h k hk
  exact ⟨(hb.cell (p := ⟨_, _, none⟩) hl).trans a, (hb.cell (p := ⟨_, _, none⟩) hl).trans b, (hb.cell (p := ⟨_, _, none⟩) hl).trans c⟩
theorem Tab.only {F : Nat → Prop} {w w' : World} (h : Tab w) (hb : Only F w w') (hF : ¬ F 0) : Tab w' := fun k hk => by
  have hl := h.lt
  have he := hb.heap hl hF
  obtain ⟨a, b, c⟩ := h k hk
  exact ⟨(World.cell?_of_block (w := w) (a := ⟨_, _, none⟩) he).trans a, (World.cell?_of_block (w := w) (a := ⟨_, _, none⟩) he).trans b, (World.cell?_of_block (w := w) (a := ⟨_, _, none⟩) he).trans c⟩
theorem Tab.alloc {w : World} (h : Tab w) (o : Obj) : Tab (w.alloc o) := h.below (b_alloc (Below.refl _ _) o)

theorem gTab : Tryd.prog.globalNamed "arenanet/input.inputs" = some 0 := by kernel_rfl
theorem gTabType : (Tryd.prog.globals[0]?).map (·.type) = some 48 := by kernel_rfl
theorem cellsTab : Tryd.prog.cellsOf 48 = 108 := by kernel_rfl
theorem cellsInp : Tryd.prog.cellsOf 23 = 3 := by kernel_rfl
theorem cellsInt : Tryd.prog.cellsOf 3 = 1 := by kernel_rfl
theorem laid_eq : (Rows.laid_arenanet_input_inputs : DataW Unit) = .agg ((List.range 36).map fun (k : Nat) => .agg [.lit (.int .i64 (dec k).1), .lit (.int .i64 (dec k).2.1), .lit (.int .i64 (dec k).2.2)]) := by
  rfl

theorem tab_of_laid {W : World} (h : laidMet Tryd.prog [("arenanet/input.inputs", Rows.laid_arenanet_input_inputs)] W) : Tab W := by
  obtain ⟨ps, ⟨g', t', cs, fuel, p, q, hg', ht', hvar, hd, _, _⟩, _⟩ := h
  obtain rfl := Option.some.inj (gTab.symm.trans hg')
  obtain rfl := Option.some.inj (gTabType.symm.trans ht')
  rw [laid_eq] at hd
  obtain ⟨xs, m, rfl, hx, hlen, hxl, hi⟩ := DataW.trod_array Tryd.underlying48 hd
  simp only [Prod.mk.injEq] at hx
  intro k hk
  have h1 := hi k hk
  have hxk : xs[k]? = some xs[k] := List.getElem?_eq_getElem (by omega)
  have hk1 : (xs[k]).1 = .agg [.lit (.int .i64 (dec k).1), .lit (.int .i64 (dec k).2.1), .lit (.int .i64 (dec k).2.2)] := by
    have h2 : (xs.map (·.1))[k]? = some xs[k].1 := by rw [List.getElem?_map, hxk]; rfl
    have h3 := hx.1
    injection h3 with h3
    rw [← h3] at h2
    simp [hk] at h2
    exact h2.symm
  rw [hxk, cellsInp] at h1
  obtain ⟨ys, n, rfl, hy, hlen2, hyl, hf⟩ := DataW.trod_struct Tryd.underlying23 h1
  have hyl : ys.length = 3 := hyl
  match ys, hyl with
  | [y0, y1, y2], _ =>
    have hy1 : xs[k].1 = .agg [y0.1, y1.1, y2.1] := by rw [hy]; rfl
    rw [hk1] at hy1
    injection hy1 with hy1
    simp only [List.cons.injEq, and_true] at hy1
    obtain ⟨e0, e1, e2⟩ := hy1
    have f0 : _ = some y0 := hf 0 _ rfl
    have f1 : _ = some y1 := hf 1 _ rfl
    have f2 : _ = some y2 := hf 2 _ rfl
    obtain ⟨a0, c0, x0, _⟩ := DataW.trod_int Tryd.underlying3 f0
    obtain ⟨a1, c1, x1, _⟩ := DataW.trod_int Tryd.underlying3 f1
    obtain ⟨a2, c2, x2, _⟩ := DataW.trod_int Tryd.underlying3 f2
    have c0 : (((cs.toList.drop (k * 3)).take 3).drop 0).take (Tryd.prog.cellsOf 3) = [.int .i64 a0] := c0
    have c1 : (((cs.toList.drop (k * 3)).take 3).drop 1).take (Tryd.prog.cellsOf 3) = [.int .i64 a1] := c1
    have c2 : (((cs.toList.drop (k * 3)).take 3).drop 2).take (Tryd.prog.cellsOf 3) = [.int .i64 a2] := c2
    rw [cellsInt] at c0 c1 c2
    rw [x0] at e0
    rw [x1] at e1
    rw [x2] at e2
    injection e0 with e0
    injection e0 with _ e0
    injection e1 with e1
    injection e1 with _ e1
    injection e2 with e2
    injection e2 with _ e2
    subst e0
    subst e1
    subst e2
    have g0 := congrArg (fun (l : List Value) => l[0]?) c0
    have g1 := congrArg (fun (l : List Value) => l[0]?) c1
    have g2 := congrArg (fun (l : List Value) => l[0]?) c2
    simp [List.getElem?_drop] at g0 g1 g2
    exact ⟨(World.var?_cell gTab hvar _).trans g0, (World.var?_cell gTab hvar _).trans g1, (World.var?_cell gTab hvar _).trans g2⟩

set_option maxHeartbeats 400000 in
theorem decode_yes (k : Nat) (w : World) (h : k < 36) (hT : Tab w) :
    Calls Tryd.prog 10 #[.int .u8 k] w fun e w' => e = .returned (.tuple #[inp (dec k), .int .i64 0]) ∧ Below w.heap.size w w' := by
  obtain ⟨t0, t1, t2⟩ := hT k h
  have hl := hT.lt
  go_enter Tryd.func10, Tryd.ntmps10
  go_wp2
  exact bodyPost_ret (v := .tuple #[inp (dec k), .int .i64 0]) (by simp [results, Tryd.results10, go_sem]) rfl ⟨rfl, by (repeat (first | (with_reducible exact Below.refl _ _) | (with_reducible assumption) | (with_reducible refine b_drew ?_) | (with_reducible refine b_drewN ?_ _) | (with_reducible refine b_alloc ?_ _) | ((with_reducible refine b_set ?_ ?_ _); rotate_left; (focus (first | omega | (simp; done) | (simp; omega) | (simp at *; omega)))) | (with_reducible refine b_call ?_ (by with_reducible assumption))))⟩
set_option maxHeartbeats 400000 in
theorem decode_no (b : Int) (w : World) (h0 : 36 ≤ b) (h : b ≤ 255) :
    Calls Tryd.prog 10 #[.int .u8 b] w fun e w' => e = .returned (.tuple #[inp (0, 0, 0), .int .i64 8]) ∧ Below w.heap.size w w' := by
  go_enter Tryd.func10, Tryd.ntmps10
  go_wp2
  exact bodyPost_ret (v := .tuple #[inp (0, 0, 0), .int .i64 8]) (by simp [results, Tryd.results10, go_sem]) rfl ⟨rfl, by (repeat (first | (with_reducible exact Below.refl _ _) | (with_reducible assumption) | (with_reducible refine b_drew ?_) | (with_reducible refine b_drewN ?_ _) | (with_reducible refine b_alloc ?_ _) | ((with_reducible refine b_set ?_ ?_ _); rotate_left; (focus (first | omega | (simp; done) | (simp; omega) | (simp at *; omega)))) | (with_reducible refine b_call ?_ (by with_reducible assumption))))⟩
theorem decode_any (b : Int) (w : World) (h0 : 0 ≤ b) (h : b ≤ 255) (hT : Tab w) :
    Calls Tryd.prog 10 #[.int .u8 b] w fun e w' => e = .returned (.tuple #[inp (decI b), .int .i64 (decE b)]) ∧ Below w.heap.size w w' := by
  by_cases hb : b ≤ 35
  · simp only [decI, decE, if_pos hb]
    obtain ⟨k, rfl⟩ := Int.eq_ofNat_of_zero_le h0
    exact decode_yes k w (by omega) hT
  · simp only [decI, decE, if_neg hb]
    exact decode_no b w (by omega) h
set_option maxHeartbeats 400000 in
theorem lives_any (w : World) :
    Calls Tryd.prog 15 #[] w fun e w' => e = .returned (.bool true) ∧ Below w.heap.size w w' := by
  go_enter Tryd.func15, Tryd.ntmps15
  go_wp2_with (first
    | (go_at_call 10; refine (decode_no _ _ (by omega) (by omega)).mono ?_; rintro e w1 ⟨rfl, hb1⟩)
    | (go_at_call 13; refine (encode_any (1, 0, 2) _ (by decide)).mono ?_; rintro e w2 ⟨rfl, hb2⟩))
  go_ret
  exact ⟨rfl, by (repeat (first | (with_reducible exact Below.refl _ _) | (with_reducible assumption) | (with_reducible refine b_drew ?_) | (with_reducible refine b_drewN ?_ _) | (with_reducible refine b_alloc ?_ _) | ((with_reducible refine b_set ?_ ?_ _); rotate_left; (focus (first | omega | (simp; done) | (simp; omega) | (simp at *; omega)))) | (with_reducible refine b_call ?_ (by with_reducible assumption))))⟩

theorem decode_code3 (a b c : Int) (w : World) (h : Val (a, b, c)) (hT : Tab w) :
    Calls Tryd.prog 10 #[.int .u8 (code (a, b, c))] w fun e w' => e = .returned (.tuple #[.agg #[.int .i64 a, .int .i64 b, .int .i64 c], .int .i64 0]) ∧ Below w.heap.size w w' := by
  have hb := code_bd h
  refine (decode_any (code (a, b, c)) w hb.1 (by omega) hT).mono fun e w' ⟨he, hw⟩ => ⟨?_, hw⟩
  rw [he, decI, decE, if_pos hb.2, if_pos hb.2, dec_code h]
theorem encode_dec3 (b : Int) (w : World) (h0 : 0 ≤ b) (h : b ≤ 35) :
    Calls Tryd.prog 13 #[.agg #[.int .i64 (dec b).1, .int .i64 (dec b).2.1, .int .i64 (dec b).2.2]] w fun e w' => e = .returned (.int .u8 b) ∧ Below w.heap.size w w' := by
  refine (encode_any (dec b) w (dec_val h0 h)).mono fun e w' ⟨he, hw⟩ => ⟨?_, hw⟩
  rw [he, code_dec h0 h]
theorem decode_yes' (b : Int) (w : World) (h0 : 0 ≤ b) (h : b ≤ 35) (hT : Tab w) :
    Calls Tryd.prog 10 #[.int .u8 b] w fun e w' => e = .returned (.tuple #[inp (dec b), .int .i64 0]) ∧ Below w.heap.size w w' := by
  refine (decode_any b w h0 (by omega) hT).mono fun e w' ⟨he, hw⟩ => ⟨?_, hw⟩
  rw [he, decI, decE, if_pos h, if_pos h]
end Go.Proofs.YtlaeambhdpagdaaDoor
