/-
  WHAT IS PROVED HERE: the iterator of package merkle over the places of a path: its contract, for every loop body that keeps what the iterator reads.
-/
import Derived.Test.YtgelhcgaacnjcaaRf
import Derived.Test.YtgelhcgaacnjcaaMkA
namespace Go.Proofs.Ytgelhcgaacnjcaa
set_option linter.unusedVariables false
open Go.RowKit Go.Shelf

attribute [local go_sem] Oper.semAt_some

/-- the level of a place on a path -/
abbrev Lv (h : Nat) := { l : Nat // l < h }
def lvs {h : Nat} (l : List (Lv h)) : List Nat := l.map (·.1)
def plv (i : Nat) {h : Nat} (x : Lv h) : Value := .agg #[.int .i64 (x.1 : Nat), .int .i64 ((i / 2 ^ x.1 : Nat) : Int)]
def plc (i : Nat) {h : Nat} (x : Lv h) : Array Value := #[.agg #[.int .i64 (x.1 : Nat), .int .i64 ((i / 2 ^ x.1 : Nat) : Int)]]
set_option maxRecDepth 100000 in
set_option maxHeartbeats 2000000 in
theorem path_in (F : Fence) (n : Nat) (hf : F.fn 49) (hro : F.round = none) (hn : 1 ≤ n) (l b1 b2 i h : Nat) (hi : i ≤ 1000000000) (hh : h ≤ 30) (J Jx : List (Lv h) → World → Prop)
    (hY : ∀ pre x W, J pre W → pre.length < h → YieldAt F (n - 1) Try.prog l (plc i x) W fun e W' =>
      (e = .returned (.bool true) ∧ J (pre ++ [x]) W' ∧ Kp2 b1 b2 W W') ∨ (e = .returned (.bool false) ∧ Jx (pre ++ [x]) W'))
    (W : World) (hc1 : W.cell? ⟨b1, 0, none⟩ = some (.int .i64 h)) (hc2 : W.cell? ⟨b2, 0, none⟩ = some (.int .i64 i)) (h0 : J [] W) :
    CallsIn F n Try.prog 49 #[.func (.yield l) #[] #[], .pointer (some ⟨b1, 0, none⟩), .pointer (some ⟨b2, 0, none⟩)] W fun e W' => (∃ v, e = .returned v) ∧
      ((∃ ys, lvs ys = List.range h ∧ J ys W') ∨ (∃ pre, Jx pre W')) := by
  refine callsIn_of_wp Try.func49 rfl hf ?_ hro
  simp only [Try.ntmps49, List.size_toArray, List.length_cons, List.length_nil, Nat.reduceAdd, Nat.reduceSub, Array.replicate_succ, Array.replicate_zero, List.push_toArray, List.append_toArray, List.nil_append, List.cons_append]
  gi_wp2
  gi_loopw [6] (fun s wr => ∃ (k : Nat) (ys : List (Lv h)), k ≤ h ∧ s = .int .i64 k ∧ Hid (lvs ys = List.range k) ∧ J ys wr ∧ Kp2 b1 b2 W wr) (fun s _ => h - (intOf s).toNat)
  case atStart => exact ⟨0, [], by omega, rfl, rfl, h0, Kp2.refl _ _ _⟩
  case round =>
    obtain ⟨k, ys, hk, rfl, HL, hJs, hkp⟩ := hrel
    have hcx : wr.cell? ⟨b2, 0, none⟩ = some (.int .i64 i) := (World.cell?_of_block (w := W) (a := ⟨b2, 0, none⟩) hkp.2).trans hc2
    by_cases hlt : k < h
    · have hd : decide ((k : Int) < (h : Int)) = true := by simp; omega
      have hlen : ys.length < h := by
        have := congrArg List.length HL.out
        simp [lvs] at this
        omega
      have HN := Lib.hid (show lvs (ys ++ [(⟨k, hlt⟩ : Lv h)]) = List.range (k + 1) from by
        have := HL.out
        unfold lvs at *
        rw [List.map_append, this, List.range_succ]
        rfl)
      obtain ⟨fn, tmps, assign, body, hy, hR⟩ := hY ys ⟨k, hlt⟩ wr hJs hlen
      have HY := Lib.hid hy
      have HR := Lib.hid hR
      clear hy hR hlen
      gi_wp2
      have hy := HY.out
      unfold plc at hy
      simp only at hy
      rw [show ((i / 2 ^ k : Nat) : Int) = (i : Int) / 2 ^ k from by rw [Int.natCast_ediv, Int.natCast_pow]; rfl] at hy
      rw [hy]
      clear hy
      gi_wp2
      refine HR.out.mono ?_
      rintro e W3 (⟨rfl, hJ3, hk3⟩ | ⟨rfl, hJx3⟩)
      · gi_wp2
        go_roundw
        case rel => exact ⟨k + 1, _, by omega, by go_num, HN, hJ3, kp2_t hkp hk3⟩
        case measure => simp [intOf]; omega
      · gi_wp2
        refine bodyPost_ret (results_none rfl _ _ _) rfl ?_
        exact ⟨⟨_, rfl⟩, .inr ⟨_, hJx3⟩⟩
    · have hd : decide ((k : Int) < (h : Int)) = false := by simp; omega
      have E := Lib.hid (show lvs ys = List.range h from by rw [HL.out, show k = h from by omega])
      gi_wp2
      go_end0
      exact ⟨⟨_, rfl⟩, .inl ⟨_, E.out, hJs⟩⟩
theorem path_stops (F : Fence) (n : Nat) (hf : F.fn 49) (hro : F.round = none) (hn : 1 ≤ n) (b1 b2 i h : Nat) (hi : i ≤ 1000000000) (hh : h ≤ 30) (w : World) (h1 : b1 < w.heap.size) (h2 : b2 < w.heap.size)
    (hc1 : w.cell? ⟨b1, 0, none⟩ = some (.int .i64 h)) (hc2 : w.cell? ⟨b2, 0, none⟩ = some (.int .i64 i)) :
    SeqStopsK F n Try.prog 49 #[.pointer (some ⟨b1, 0, none⟩), .pointer (some ⟨b2, 0, none⟩)] (fun x : Lv h => #[plv i x]) (Kp2 b1 b2) (fun xs => lvs xs = List.range h) (fun _ => True) h w := by
  intro l J Jx W hW hJ hJx hY h0
  refine (path_in F n hf hro hn l b1 b2 i h hi hh J Jx hY W ((hW.cell (p := ⟨b1, 0, none⟩) h1).trans hc1) ((hW.cell (p := ⟨b2, 0, none⟩) h2).trans hc2) h0).mono ?_
  rintro e W' ⟨hv, h | ⟨pre, hj⟩⟩
  · exact ⟨hv, .inl h⟩
  · exact ⟨hv, .inr ⟨pre, trivial, hj⟩⟩
set_option maxHeartbeats 1000000 in
theorem path_make (F : Fence) (n : Nat) (hf : F.fn 37) (hro : F.round = none) (i h : Nat) (w : World) :
    CallsIn F n Try.prog 37 #[.int .i64 i, .int .i64 h] w fun e w' => e = .returned (.func (.func 49) #[] #[.pointer (some ⟨w.heap.size + 1, 0, none⟩), .pointer (some ⟨w.heap.size, 0, none⟩)]) ∧ w' = (w.alloc (.cells #[.int .i64 i] 3)).alloc (.cells #[.int .i64 h] 3) := by
  refine callsIn_of_wp Try.func37 rfl hf ?_ hro
  simp only [Try.ntmps37, List.size_toArray, List.length_cons, List.length_nil, Nat.reduceAdd, Nat.reduceSub, Array.replicate_succ, Array.replicate_zero, List.push_toArray, List.append_toArray, List.nil_append, List.cons_append]
  gi_wp2
  go_ret
  exact ⟨rfl, rfl⟩
end Go.Proofs.Ytgelhcgaacnjcaa
