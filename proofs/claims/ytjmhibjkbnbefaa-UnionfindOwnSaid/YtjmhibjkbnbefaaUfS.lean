/-
  WHAT IS PROVED HERE: the walk of the law UnionfindOwn: it returns true at every input, and leaves old memory as it was. Conditions: the arguments' lengths are a machine's.
-/
import Derived.Test.YtjmhibjkbnbefaaUfL
namespace Go.Proofs.Ytjmhibjkbnbefaa
set_option linter.unusedVariables false
open Go.ChangeShapes Go.WideShapes Go.ChangeAt Go.RowKit

theorem run_equalIn2' (D : Nat) (x y : Int) (w : World) (hD : ∀ a : Int, (Op.equalIn D 3 (.int .i64 a) (.int .i64 a)).run Try.prog w = .ok true w) : (Op.equalIn (D + 1) 32 (.agg #[.int .i64 x, .int .i64 y]) (.agg #[.int .i64 x, .int .i64 y])).run Try.prog w = .ok true w := by
  have h1 := Try.underlying32
  have p0 : (part 3 #[.int .i64 x, .int .i64 y] (0 * 1)).run Try.prog w = .ok (.int .i64 x) w := by go_simp
  have p1 : (part 3 #[.int .i64 x, .int .i64 y] (1 * 1)).run Try.prog w = .ok (.int .i64 y) w := by go_simp
  have hs : (sizeOf 3).run Try.prog w = .ok 1 w := by go_simp
  have r2 : List.range' 0 2 = [0, 1] := rfl
  simp only [Op.equalIn, Sem.run_bind, run_underlying h1, Result.andThen_ok, hs, Std.Legacy.Range.forIn_eq_forIn_range', Std.Legacy.Range.size, r2, List.forIn_cons, List.forIn_nil, p0, hD]
  simp [p1, hD]
theorem run_equalIn2 (x y : Int) (w : World) : (Op.equalIn 10000 32 (.agg #[.int .i64 x, .int .i64 y]) (.agg #[.int .i64 x, .int .i64 y])).run Try.prog w = .ok true w :=
  run_equalIn2' 9999 x y w fun a => by rw [run_equalIn_int w 9998 3 .i64 .i64 a a Try.underlying3]; simp
theorem run_neq2 (x y : Int) (w : World) : (binOp .neq 32 (.agg #[.int .i64 x, .int .i64 y]) (.agg #[.int .i64 x, .int .i64 y])).run Try.prog w = .ok (.bool false) w := by
  simp only [binOp]
  simp [Op.equal, Op.maxDepth, run_equalIn2 x y w]

/-- Block b is of numbers, at least n of them, and may be written. -/
def Wri (w : World) (b n : Nat) : Prop := ∃ cs, Vr w b 3 cs ∧ n ≤ cs.size
theorem Wri.set {w : World} {b n : Nat} (h : Wri w b n) (p q : Nat) (u : Value) : Wri (w.setCell ⟨p, q, none⟩ u) b n := by
  obtain ⟨cs, hv, hn⟩ := h
  by_cases hb : b = p
  · subst hb
    exact ⟨_, hv.set q u, by simpa using hn⟩
  · exact ⟨cs, hv.far hb u, hn⟩
/-- Groups that lie in memory so that their members may be written. -/
def GrW (w : World) (base : Nat) (A : Option Addr) (rows : List (List Int)) : Prop :=
  ∀ i, i < rows.length → ∃ b cs A' c', A = some ⟨b, 0, none⟩ ∧ Vr w b 22 cs ∧ cs[i]? = some (.slice A' (rows.getD i []).length c') ∧ (0 < (rows.getD i []).length → ∃ b', A' = some ⟨b', 0, none⟩ ∧ base ≤ b' ∧ Wri w b' (rows.getD i []).length)
theorem GrW.set {w : World} {base : Nat} {A : Option Addr} {rows : List (List Int)} (h : GrW w base A rows) {b n : Nat} (hb : Wri w b n) (q : Nat) (u : Value) : GrW (w.setCell ⟨b, q, none⟩ u) base A rows := by
  intro i hi
  obtain ⟨b0, cs, A', c', e, hv, hc, hw⟩ := h i hi
  refine ⟨b0, cs, A', c', e, hv.far ?_ u, hc, fun h0 => ?_⟩
  · intro e
    have e : b0 = b := e
    subst e
    obtain ⟨cs', hv', _⟩ := hb
    unfold Vr at hv hv'
    rw [hv] at hv'
    injection hv' with hv'
    injection hv' with _ hv'
    exact absurd hv' (by decide)
  · obtain ⟨b', e', hb', hw'⟩ := hw h0
    exact ⟨b', e', hb', hw'.set b q u⟩
theorem GrW.of {w : World} {base c : Nat} {A : Option Addr} {vs : List Value} {rows : List (List Int)} (h : w.ownsRow base 22 1 (.slice A rows.length c) rows.length vs) (hr : RowsOf w base vs rows) : GrW w base A rows := by
  intro i hi
  obtain ⟨g, cur, e, hg, hv, ht, hn, hs⟩ := own_open h (by omega)
  have hvl : i < vs.length := by rw [hr.1]; exact hi
  obtain ⟨A', c', he, ho⟩ := hr.2 i _ _ (List.getElem?_eq_getElem hvl) (List.getElem?_eq_getElem hi)
  have hrow : rows.getD i [] = rows[i] := by simp [List.getD_eq_getElem?_getD, hi]
  rw [hrow]
  refine ⟨g, cur, A', c', e, hv, ?_, fun h0 => ?_⟩
  · have h1 : vs[i]? = some vs[i] := List.getElem?_eq_getElem hvl
    rw [he] at h1
    rw [← ht, List.getElem?_take] at h1
    split at h1
    · simpa using h1
    · cases h1
  · rw [he] at ho
    obtain ⟨g', cur', e', hg', hv', ht', hn', hs'⟩ := own_open ho h0
    exact ⟨g', e', hg', cur', hv', by omega⟩

set_option maxRecDepth 100000 in
set_option maxHeartbeats 8000000 in
theorem own_walk (a0 : Int) (A : Option Addr) (n c : Nat) (l : List Int) (w : World) (ha : -9223372036854775808 ≤ a0 ∧ a0 ≤ 9223372036854775807)
    (nc : n ≤ c) (cm : c ≤ maxLen) (ln : l.length = n) (rd : Rd w w.heap.size 1 A n (l.map (Value.int .i64))) (wf : ∀ x ∈ l, (Lit.int .i64 x).wf = true) :
    Calls Try.prog 7 #[.int .i64 a0, .slice A n c] w fun e w' => e = .returned (.bool true) ∧ Below w.heap.size w w' := by
  have RD := Lib.hid rd
  have H64 := Lib.hid (fun x hx => bounds_i64 (wf x hx))
  have hn : n ≤ 9223372036854775807 := by unfold maxLen at cm; omega
  obtain ⟨K, hK, hK14⟩ := size_nat a0
  have HK := Lib.hid hK
  have HOK := Lib.hid (edgesOf_ok l)
  have hm30 : min n 30 ≤ 30 := Nat.min_le_right _ _
  have HM := Lib.hid (show (edgesOf l).length = min n 30 from by unfold edgesOf; rw [List.length_take, List.length_map, ln, Nat.min_comm])
  have hne := fun (W : World) (x y : Int) => run_neq2 x y W
  clear rd wf nc cm ln hK
  go_enter Try.func7, Try.ntmps7
  go_wp2_with fail
  refine (size_any a0 _ ha.1 ha.2).mono ?_
  rintro e w_ ⟨rfl, rfl⟩
  rw [HK.out]
  go_wp2_with fail
  refine (edges_any A n c l _ H64.out RD.out hn).mono ?_
  rintro e w1 ⟨A2, c2, rfl, hc2, hm2, own2, hb1⟩
  have O2 := Lib.hid own2
  clear own2
  have R2 := Lib.hid (show Rd w1 w1.heap.size 2 A2 (min n 30) (flat2 (edgesOf l)) from rd_own O2.out)
  go_wp2_with fail
  refine (merged_any K A2 _ c2 (edgesOf l) _ (by omega) (by omega) HOK.out R2.out (fun ad he => (own_blk O2.out ad he).2)).mono ?_
  rintro e w2 ⟨p, g, rfl, hp, hg, U2, hb2⟩
  have U2 := Lib.hid U2
  have hHS := Lib.hid (groups_small (f := foldU K idU (edgesOf l)) (n := K) (by omega))
  go_wp2_with fail
  refine (ufgroups_any p g K _ _ (by omega) U2.out).mono ?_
  rintro e X ⟨A4, c4, vs4, rfl, hc4, hm4, own4, rows4, U4, O4⟩
  have U4 := Lib.hid U4
  have G4 := Lib.hid (GrW.of own4 rows4)
  have hBX : Below w1.heap.size w1 X := hb2.trans (O4.below hb2.size (by rintro j rfl; exact hg))
  have hpl := U2.out.lt.1
  have hgl := U2.out.lt.2
  have hz2 := hb2.size
  clear own4 rows4 U2 O4
  obtain ⟨G, hG⟩ : ∃ G, groupsI (foldU K idU (edgesOf l)) K = G := ⟨_, rfl⟩
  rw [hG] at G4 hc4 ⊢
  rw [hG] at hHS
  have HG := Lib.hid hG
  clear hG
  obtain ⟨h, hh⟩ : ∃ h, G.length = h := ⟨_, rfl⟩
  rw [hh] at hc4 ⊢
  have HH := Lib.hid hh
  have hh4 : h ≤ 100000 := by have := hHS.out.1; omega
  clear hh
  go_wp2
  go_loopw [9] (fun s9 wr => ∃ i : Nat, i ≤ h ∧ s9 = .int .i64 i ∧ Hid (GrW wr w2.heap.size A4 G) ∧ Hid (Ufs wr p g K (foldU K idU (edgesOf l))) ∧ Below w1.heap.size w1 wr) (fun i _ => h - (intOf i).toNat)
  case atStart => exact ⟨0, by omega, rfl, G4, U4, hBX⟩
  case round =>
    obtain ⟨Y, rfl⟩ : ∃ Y : World, Y = wr := ⟨_, rfl⟩
    obtain ⟨i, hi, rfl, HGY, HUY, hBY⟩ := hrel
    by_cases hlt : i < h
    · go_wp2
      go_loopw [10] (fun s10 wr => ∃ j : Nat, j ≤ (G.getD i []).length ∧ s10 = .int .i64 j ∧ Hid (GrW wr w2.heap.size A4 G) ∧ Hid (Ufs wr p g K (foldU K idU (edgesOf l))) ∧ Below w1.heap.size w1 wr) (fun j _ => (G.getD i []).length - (intOf j).toNat)
      case atStart => exact ⟨0, by omega, rfl, HGY, HUY, hBY⟩
      case round =>
        obtain ⟨j, hj, rfl, HG3, HU3, hB3⟩ := hrel
        have hL := hHS.out.at i
        obtain ⟨b, cs, A', c', rfl, hv, hc, hw⟩ := HG3.out i (by rw [HH.out]; exact hlt)
        have hcell : wr.cell? ⟨b, i, none⟩ = some (.slice A' (G.getD i []).length c') := by rw [hv.cell]; exact hc
        obtain ⟨L, hLe⟩ : ∃ L, (G.getD i []).length = L := ⟨_, rfl⟩
        rw [hLe] at hj hL hcell hw ⊢
        clear hv hc
        by_cases hjl : j < L
        · obtain ⟨b', rfl, hb', hwr⟩ := hw (by omega)
          have HWR := Lib.hid hwr
          obtain ⟨cs', hv', hn'⟩ := hwr
          have hf := hv'.frozen j
          have hcj : wr.cell? ⟨b', j, none⟩ = some (cs'[j]'(by omega)) := by rw [hv'.cell, Array.getElem?_eq_getElem]
          clear hw hv'
          go_wp2
          go_roundw
          case rel => exact ⟨j + 1, by omega, by go_num, Lib.hid (HG3.out.set HWR.out _ _), Lib.hid (HU3.out.keep (Below.heap_setCell _ _ _ _ (by intro e; have e : p = b' := e; omega)) (Below.heap_setCell _ _ _ _ (by intro e; have e : g = b' := e; omega))), hB3.setCell (p := ⟨b', j, none⟩) (by show w1.heap.size ≤ b'; omega) _⟩
          case measure => simp [intOf]; omega
        · clear hw
          go_wp2
          go_roundw
          case rel => exact ⟨i + 1, by omega, by go_num, HG3, HU3, hB3⟩
          case measure => simp [intOf]; omega
    · have hBw := b_call hb1 hBY
      have R5 := Lib.hid (show Rd Y Y.heap.size 2 A2 (min n 30) (flat2 (edgesOf l)) from rd_step R2.out hBY)
      go_wp2_with fail
      refine (islands_any K A2 _ c2 (edgesOf l) _ (by omega) (by omega) HOK.out R5.out).mono ?_
      rintro e w5 ⟨A5, c5, vs5, rfl, hc5, hm5, own5, rows5, hb5⟩
      have R6 := Lib.hid (And.intro own5 rows5)
      have hgY := HUY.out.lt.2
      clear own5 rows5
      go_wp2_with fail
      refine (edges_any A n c l _ H64.out (rd_step (rd_step RD.out hBw) hb5) hn).mono ?_
      rintro e w6 ⟨A6, c6, rfl, hc6, hm6, own6, hb6⟩
      have R7 := Lib.hid (show Rd w6 w6.heap.size 2 A6 (min n 30) (flat2 (edgesOf l)) from rd_own own6)
      have R8 := Lib.hid (show Rd w6 w6.heap.size 2 A2 (min n 30) (flat2 (edgesOf l)) from rd_step (rd_step R5.out hb5) hb6)
      have U6 := Lib.hid ((HUY.out.below hb5).below hb6)
      have R9 := Lib.hid (And.intro (own_below R6.out.1 hb6) (R6.out.2.below hb6))
      have hB6 : Below w.heap.size w w6 := by (repeat (first | (with_reducible exact Below.refl _ _) | (with_reducible assumption) | (with_reducible refine b_drew ?_) | (with_reducible refine b_drewN ?_ _) | (with_reducible refine b_alloc ?_ _) | ((with_reducible refine b_set ?_ ?_ _); rotate_left; (focus (first | omega | (simp; done) | (simp; omega) | (simp at *; omega)))) | (with_reducible refine b_call ?_ (by with_reducible assumption))))
      clear own6 hb6 hb5 R5 R6
      generalize min n 30 = m at *
      go_wp2
      go_loopw [13] (fun s13 wr => ∃ k : Nat, k ≤ m ∧ s13 = .int .i64 k ∧ Below w6.heap.size w6 wr) (fun i _ => m - (intOf i).toNat)
      case atStart => exact ⟨0, by omega, rfl, Below.refl _ _⟩
      case round =>
        obtain ⟨k, hk, rfl, hB⟩ := hrel
        by_cases hkm : k < m
        · obtain ⟨b, o, hl, rfl, hb, hc0, hc1⟩ := (R8.out.below hB (Nat.le_refl _)).openEdge hkm
          obtain ⟨b', o', hl', rfl, hb', hc0', hc1'⟩ := (R7.out.below hB (Nat.le_refl _)).openEdge hkm
          obtain ⟨⟨x, y⟩, hx⟩ : ∃ x, (edgesOf l)[k] = x := ⟨_, rfl⟩
          rw [hx] at hc0 hc1 hc0' hc1'
          clear hx
          go_wp2_with fail
          go_quiet (fail)
          go_wp2
          go_roundw
          case rel => exact ⟨k + 1, by omega, by go_num, below_drewN hB _⟩
          case measure => simp [intOf]; omega
        · have hgw : w.heap.size ≤ g := by have := hb1.size; omega
          have hBwr := b_call hB6 hB
          go_wp2_with fail
          refine (ufgroups_any p g K _ _ (by omega) (U6.out.below hB)).mono ?_
          rintro e w7 ⟨A7, c7, vs7, rfl, hc7, hm7, own7, rows7, U7, O7⟩
          have RA := Lib.hid (RdRows.of own7 rfl rows7)
          have hB7 := below_only hBwr O7 hgw
          have RN9 := Lib.hid (show RdRows w7 A5 (groupsI (foldU K idU (edgesOf l)) K).length (groupsI (foldU K idU (edgesOf l)) K) from RdRows.of (own_only (own_below R9.out.1 hB) O7 (by intro j hj; omega)) rfl ((R9.out.2.below hB).only O7 (by intro j hj; omega)))
          clear own7 rows7 U7
          rw [HG.out] at RA RN9 hc7 ⊢
          go_wp2_with fail
          refine (equal2_same A7 A5 _ c7 _ c5 G _ RA.out RN9.out hHS.out).mono ?_
          rintro e w8 ⟨rfl, hb8⟩
          go_wp2_with fail
          refine (lives_any _).mono ?_
          rintro e w9 ⟨rfl, hb9⟩
          go_wp2
          go_ret
          exact ⟨rfl, hB7.trans (Below.mono (by (repeat (first | (with_reducible exact Below.refl _ _) | (with_reducible assumption) | (with_reducible refine b_drew ?_) | (with_reducible refine b_drewN ?_ _) | (with_reducible refine b_alloc ?_ _) | ((with_reducible refine b_set ?_ ?_ _); rotate_left; (focus (first | omega | (simp; done) | (simp; omega) | (simp at *; omega)))) | (with_reducible refine b_call ?_ (by with_reducible assumption))))) hB7.size)⟩
end Go.Proofs.Ytjmhibjkbnbefaa
