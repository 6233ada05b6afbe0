/-
  WHAT IS PROVED HERE: the walk of the law MerkleOwn. No condition but what comes in lies in memory.
-/
import Derived.Test.YtgelhcgaacnjcaaMlE
import Derived.Test.YtgelhcgaacnjcaaMkN
import Derived.Deep.Cut
import Derived.Deep.CutRange
import Derived.Deep.CutBlock
namespace Go.Proofs.Ytgelhcgaacnjcaa
set_option linter.unusedVariables false
open Go.ChangeShapes Go.WideShapes Go.ChangeAt Go.RowKit

theorem slLeafE : SlT Try.prog 46 25 3 40 := .mk' (z := .agg #[.int .i64 0, .int .i64 0, .slice none 0 0]) Try.underlying46 (by kernel_rfl) rfl (by omega)
set_option maxRecDepth 100000 in
set_option maxHeartbeats 8000000 in
theorem mown_walk (A : Option Addr) (n c : Nat) (l : List Int) (i : Int) (W : World) (rd : Rd W W.heap.size 1 A n (l.map (Value.int .i64))) (hn : n ≤ c) (hc : c ≤ maxLen) (hi : I64 i) :
    Calls Try.prog 9 #[.slice A n c, .int .i64 i] W fun e w' => e = .returned (.bool true) ∧ Below W.heap.size W w' := by
  have hll : l.length = n := by have := rd.1; simpa using this
  have HL := Lib.hid (take20 hll)
  have RD := Lib.hid rd
  have HN := Lib.hid hn
  have HC := Lib.hid hc
  have HI := Lib.hid hi
  clear rd hn hc hll hi
  go_enter Try.func9, Try.ntmps9
  go_wp2_with fail
  refine (cells_any A n c l _ RD.out HN.out HC.out).mono ?_
  rintro e w1 ⟨A1, c1, rfl, hm1, hm2, o1, hb1⟩
  obtain ⟨N, hN⟩ : ∃ N, min n 20 = N := ⟨_, rfl⟩
  obtain ⟨cs, hcs⟩ : ∃ cs, l.take 20 = cs := ⟨_, rfl⟩
  have hN20 : N ≤ 20 := by rw [← hN]; exact Nat.min_le_right _ _
  rw [hN, hcs] at o1 HL
  rw [hN]
  have R1 := Lib.hid (rd_own o1)
  have HB1 := Lib.hid hb1
  clear o1 hN hcs hb1 hm1 hm2
  by_cases h0 : N = 0
  · subst h0
    go_wp2_with fail
    refine (lives_any _).mono ?_
    rintro e w9 ⟨rfl, hb9⟩
    have hb := b_call HB1.out hb9
    go_wp2
    go_ret
    exact ⟨rfl, hb⟩
  have q0 : ((N : Int) == 0) = false := by simpa using h0
  have hw1 := HB1.out.size
  have OE := Lib.hid (own_shut (base := w1.heap.size) (sz := 1) (N := 0) (c := 0) (xs := []) (Nat.le_refl _) (Vr.new w1 3 #[]) (by simp) (by simp) (Nat.le_refl _) (by simp [maxLen]) (by simp))
  go_upto_region 5 with (at_builtin; refine wpList_app _ rfl (.tmp 19) (.tmp 20) slInts rfl (v := .slice (some ⟨w1.heap.size, 0, none⟩) 0 0) rfl OE.out rfl (rd_step R1.out (b_alloc (Below.refl _ _) _)) (ints_one _ _) N (Nat.zero_add _) (by unfold maxLen; omega) (by omega) (by simp) ?_; intro A2 c2 w2 g1 g2 g3 g4 g5)
  have hO2 := Lib.hid (show Below w1.heap.size w1 w2 from below_app (b_alloc (Below.refl _ _) _) OE.out g4 (Nat.le_refl _) (by simp))
  have Q2 := Lib.hid (show w2.ownsRow w1.heap.size 3 1 (.slice A2 N c2) N (cs.map (Value.int .i64)) from by simpa using g3)
  have HB2 := Lib.hid (b_call HB1.out hO2.out)
  clear g1 g2 g3 g4 g5 R1
  have R2 := Lib.hid (rd_own Q2.out)
  go_wp2_with fail
  refine (new_any A2 N c2 cs _ R2.out (by omega)).mono ?_
  rintro e w3 ⟨g, bc, bn, f0, rfl, T, n3, hb3⟩
  have T3 := Lib.hid T
  have HB3 := Lib.hid (b_call HB2.out hb3)
  have Q3 := Lib.hid (own_below Q2.out hb3)
  have N3 := Lib.hid n3
  have Q2b := Q2
  clear T hb3 n3 R2 Q2
  have HFN := Lib.hid (show ∀ k, TF g bc bn k → W.heap.size ≤ k from fun k hk => Nat.le_trans HB2.out.size (N3.out k hk))
  obtain ⟨g2, cur, rfl, hg2, V2, hcur, hnc2, hcs2⟩ := own_open Q3.out (by omega)
  have hg2l := V2.lt
  have hgF := Lib.hid (show ¬ TF g bc bn g2 from fun h => by
    have h1 := N3.out _ h
    have h2 := (own_cells Q2b.out (k := g2) rfl).2
    obtain ⟨cur2, h2⟩ := h2
    have := (Array.getElem?_eq_some_iff.1 h2).1
    omega)
  have hc0 : ∃ y, w3.cell? ⟨g2, 0, none⟩ = some (.int .i64 y) := by
    have h1 : (cur.toList.take (N * 1))[0]? = (cs.map (Value.int .i64))[0]? := by rw [hcur]
    rw [List.getElem?_take_of_lt (by omega)] at h1
    have h2 : 0 < cs.length := by rw [HL.out]; omega
    refine ⟨cs[0], ?_⟩
    rw [V2.cell]
    simpa [h2] using h1
  obtain ⟨y, hy⟩ := hc0
  have hf := V2.frozen 0
  have j1 : (0 : Int) < (N : Int) := by omega
  clear hcur hcs2 Q3 hnc2
  go_upto_region 9 with (fail)
  refine name_world ?_
  intro w4 hX
  have O4 : Only (· = g2) w3 w4 := by rw [hX]; exact o_set (Only.refl _ _) _ _
  have T4 := Lib.hid (T3.out.only O4 (fun k hk e => hgF.out (e ▸ hk)))
  have HB4 := Lib.hid (HB3.out.trans (O4.below (B := W.heap.size) HB3.out.size (fun k e => by omega)))
  clear hX O4 V2 T3 hy hf
  obtain ⟨kz, hkz⟩ : ∃ k : Nat, around i (N : Int) = k ∧ k < N := by
    have := around_bd i (N : Int) (by omega)
    exact ⟨(around i (N : Int)).toNat, by omega, by omega⟩
  obtain ⟨hkz, hkN⟩ := hkz
  have HKZ := Lib.hid hkz
  clear hkz
  go_wp2_with fail
  refine (around_any i (N : Int) _ HI.out.1 HI.out.2 (by omega) (by omega)).mono ?_
  rintro e w_ ⟨rfl, rfl⟩
  rw [HKZ.out]
  have hkl : kz < cs.length := by rw [HL.out]; exact hkN
  go_wp2_with fail
  refine (prove_yes g bc bn cs f0 kz _ T4.out hkl).mono ?_
  rintro e w5 ⟨A5, c5, rfl, o5, k3, k4, hb5⟩
  have S5 := Lib.hid (rd_own o5)
  have T5 := Lib.hid (T4.out.call hb5)
  have HB5 := Lib.hid (b_call HB4.out hb5)
  obtain ⟨prf, hprf⟩ : ∃ p, prfV cs kz (List.range (hgt cs.length)) = p := ⟨_, rfl⟩
  obtain ⟨v, hv⟩ : ∃ v, cs[kz] = v := ⟨_, rfl⟩
  have HNP := Lib.hid (fun (Z : World) (bl : Nat) (h : LfRows Z Z.heap.size (some ⟨bl, 0, none⟩) 1 [⟨kz, v, A5, prf.length, c5, prf⟩]) => pt_new cs (by rw [HL.out]; omega) 1 1 (some ⟨bl, 0, none⟩) [⟨kz, v, A5, prf.length, c5, prf⟩] Z h (by omega) (fun r hr => by
    simp at hr
    subst hr
    exact ⟨kz, hkl, rfl, hv.symm, hprf.symm⟩))
  obtain ⟨q, hq⟩ : ∃ q, hgt cs.length = q := ⟨_, rfl⟩
  have hpl : prf.length = q := by rw [← hprf, prfV_len, List.length_range, hq]
  have hq10 : q ≤ 10 := by rw [← hq]; exact hgt_min (by rw [HL.out]; omega)
  have HRt := Lib.hid (fun (w : World) (H : Tr w g bc bn cs f0) => troot_any H)
  rw [hprf] at o5 S5
  rw [hpl] at o5 S5 HNP
  rw [hq, HL.out] at HNP
  rw [hq] at HRt
  obtain ⟨rt, hrt⟩ : ∃ r, nV cs q 0 = r := ⟨_, rfl⟩
  rw [hrt] at HRt HNP
  rw [hprf, hpl, hv]
  have HQ := Lib.hid hq
  have O5 := Lib.hid o5
  have hs5 := hb5.size
  have hF5 := Lib.hid (show ∀ b, (Value.slice A5 q c5).ownBlock = some b → w4.heap.size ≤ b ∧ b < w5.heap.size from fun b e => by
    obtain ⟨h1, cur5, h2⟩ := own_cells o5 e
    exact ⟨h1, (Array.getElem?_eq_some_iff.1 h2).1⟩)
  clear o5 k3 k4 hprf hpl hrt hv hq hb5
  go_wp2
  refine name_world ?_
  intro X hX
  obtain ⟨bx, hbx⟩ : ∃ x, w5.heap.size = x := ⟨_, rfl⟩
  have hbX : Below w5.heap.size w5 X := by rw [hX]; (repeat (first | (with_reducible exact Below.refl _ _) | (with_reducible assumption) | (with_reducible refine b_drew ?_) | (with_reducible refine b_drewN ?_ _) | (with_reducible refine b_alloc ?_ _) | ((with_reducible refine b_set ?_ ?_ _); rotate_left; (focus (first | omega | (simp; done) | (simp; omega) | (simp at *; omega)))) | (with_reducible refine b_call ?_ (by with_reducible assumption))))
  have VX := Lib.hid (show Vr X bx 25 #[.int .i64 kz, .int .i64 v, .slice A5 q c5] from by rw [hX, ← hbx]; exact Vr.new w5 _ _)
  have TX := Lib.hid (T5.out.call hbX)
  have HBX := Lib.hid (b_call HB5.out hbX)
  have SX := Lib.hid (rd_step S5.out hbX)
  have OX := Lib.hid (own_below O5.out hbX)
  have hsX : X.heap.size = bx + 1 := by rw [hX, ← hbx]; simp
  rw [hbx]
  have HFX := Lib.hid (show ∀ b, (Value.slice A5 q c5).ownBlock = some b → w4.heap.size ≤ b ∧ b < bx from by rw [← hbx]; exact hF5.out)
  have HT4 := Lib.hid (fun k hk => T4.out.lt (k := k) hk)
  have HFW := Lib.hid HB4.out.size
  have hw4x : w4.heap.size ≤ bx := by rw [← hbx]; exact hs5
  clear hX hbx hbX S5 T5 O5 hF5 T4 hs5 HB5 HB4
  refine wp_region_any (by kernel_rfl) ?_
  change wpAny _ _ _ _ _ _ _ (World.drew _)
  refine wpAny_go (fun A0 L aa w => ∃ (v40 v41 v42 v43 v44 v45 v46 v39 v47 v48 v10 v11 : Value) (bl : Nat) (gp : Nat) (bcp : Nat) (bnp : Nat), aa = fr A0 [(40, v40), (41, v41), (42, v42), (43, v43), (44, v44), (45, v45), (46, v46), (39, v39), (47, v47), (48, v48), (10, v10), (11, v11)] ∧ (Below X.heap.size X w) ∧ (Hid (L 5 = true → LfRows w w.heap.size (some ⟨bl, 0, none⟩) 1 [⟨kz, v, A5, q, c5, prf⟩])) ∧ (Hid (L 6 = true → PT w gp bcp bnp 22 cs [(kz : Int)] ∧ ∀ k, TF gp bcp bnp k → X.heap.size ≤ k)) ∧ ((L 6 = true → L 5 = true) ∧ (L 7 = true → L 6 = true) ∧ (L 8 = true → L 7 = true) ∧ (L 10 = true → L 8 = true)) ∧ Hid (L 0 = true → v40 = Value.pointer (some ⟨g, 0, none⟩)) ∧ Hid (L 1 = true → v41 = Value.int .u64 rt) ∧ Hid (L 2 = true → v42 = Value.slice A1 N c1) ∧ Hid (L 3 = true → v43 = Value.int .i64 N) ∧ Hid (L 4 = true → v44 = Value.agg #[.int .i64 kz, .int .i64 v, .slice A5 q c5]) ∧ Hid (L 5 = true → v45 = Value.slice (some ⟨bl, 0, none⟩) 1 1) ∧ Hid (L 6 = true → v46 = Value.tuple #[.pointer (some ⟨gp, 0, none⟩), .int .i64 0]) ∧ Hid (L 7 = true → v39 = Value.tuple #[.pointer (some ⟨gp, 0, none⟩), .int .i64 0]) ∧ Hid (L 8 = true → v47 = Value.pointer (some ⟨gp, 0, none⟩)) ∧ Hid (L 9 = true → v48 = Value.int .i64 0) ∧ Hid (L 10 = true → v10 = Value.pointer (some ⟨gp, 0, none⟩)) ∧ Hid (L 11 = true → v11 = Value.int .i64 0)) [0, 1, 2, 3, 4, 5, 6, 7, 8, 9, 10, 11] (by kernel_rfl) (by kernel_rfl) ?a1I ?a1S ?a1D
  case a1I =>
    refine ⟨?a1v40, ?a1v41, ?a1v42, ?a1v43, ?a1v44, ?a1v45, ?a1v46, ?a1v39, ?a1v47, ?a1v48, ?a1v10, ?a1v11, 0, 0, 0, 0, ?a1fr, b_drew (Below.refl _ _), Lib.hid (no_yet (by kernel_rfl)), Lib.hid (no_yet (by kernel_rfl)), ⟨no_yet (by kernel_rfl), no_yet (by kernel_rfl), no_yet (by kernel_rfl), no_yet (by kernel_rfl)⟩, Lib.hid (no_yet (by kernel_rfl)), Lib.hid (no_yet (by kernel_rfl)), Lib.hid (no_yet (by kernel_rfl)), Lib.hid (no_yet (by kernel_rfl)), Lib.hid (no_yet (by kernel_rfl)), Lib.hid (no_yet (by kernel_rfl)), Lib.hid (no_yet (by kernel_rfl)), Lib.hid (no_yet (by kernel_rfl)), Lib.hid (no_yet (by kernel_rfl)), Lib.hid (no_yet (by kernel_rfl)), Lib.hid (no_yet (by kernel_rfl)), Lib.hid (no_yet (by kernel_rfl))⟩
    case a1fr => (simp only [fr, List.foldl_cons, List.foldl_nil, Act.put, List.setIfInBounds_toArray, List.set_cons_zero, List.set_cons_succ]; rfl)
  case a1S =>
    refine Steps.plain (i := 0) (o := ?a1o0) [] ?a1h0 ?a1g0 ?a1d0 ?a1s0 ?a1r0
    case a1h0 => (simp only [List.getElem?_toArray, List.getElem?_cons_zero]; rfl)
    case a1g0 => rfl
    case a1d0 => kernel_rfl
    case a1s0 =>
      rintro L aa w h0 _ ⟨v40, v41, v42, v43, v44, v45, v46, v39, v47, v48, v10, v11, bl, gp, bcp, bnp, rfl, hB, hLf, hP, hY, hF⟩ K hK
      simp only [fr, List.foldl_cons, List.foldl_nil, Act.put, List.setIfInBounds_toArray, List.set_cons_zero, List.set_cons_succ]
      go_simp
      exact hK _ _ ⟨(Value.pointer (some ⟨g, 0, none⟩)), v41, v42, v43, v44, v45, v46, v39, v47, v48, v10, v11, bl, gp, bcp, bnp, (by (simp only [fr, List.foldl_cons, List.foldl_nil, Act.put, List.setIfInBounds_toArray, List.set_cons_zero, List.set_cons_succ]); try rfl), hB, hLf, hP, hY, Lib.hid (fun _ => rfl), hF.2.1, hF.2.2.1, hF.2.2.2.1, hF.2.2.2.2.1, hF.2.2.2.2.2.1, hF.2.2.2.2.2.2.1, hF.2.2.2.2.2.2.2.1, hF.2.2.2.2.2.2.2.2.1, hF.2.2.2.2.2.2.2.2.2.1, hF.2.2.2.2.2.2.2.2.2.2.1, hF.2.2.2.2.2.2.2.2.2.2.2⟩
    refine Steps.plain (i := 1) (o := ?a1o1) [0] ?a1h1 ?a1g1 ?a1d1 ?a1s1 ?a1r1
    case a1h1 => (simp only [List.getElem?_toArray, List.getElem?_cons_succ, List.getElem?_cons_zero]; rfl)
    case a1g1 => rfl
    case a1d1 => kernel_rfl
    case a1s1 =>
      rintro L aa w h0 ⟨e0, _⟩ ⟨v40, v41, v42, v43, v44, v45, v46, v39, v47, v48, v10, v11, bl, gp, bcp, bnp, rfl, hB, hLf, hP, hY, hF⟩ K hK
      obtain rfl := (hF.1).out e0
      simp only [fr, List.foldl_cons, List.foldl_nil, Act.put, List.setIfInBounds_toArray, List.set_cons_zero, List.set_cons_succ]
      go_simp
      refine (HRt.out _ (TX.out.call hB)).mono ?_
      rintro e w6 ⟨rfl, rfl⟩
      exact hK _ _ ⟨(Value.pointer (some ⟨g, 0, none⟩)), (Value.int .u64 rt), v42, v43, v44, v45, v46, v39, v47, v48, v10, v11, bl, gp, bcp, bnp, (by (simp only [fr, List.foldl_cons, List.foldl_nil, Act.put, List.setIfInBounds_toArray, List.set_cons_zero, List.set_cons_succ]); try rfl), hB, hLf, hP, hY, hF.1, Lib.hid (fun _ => rfl), hF.2.2.1, hF.2.2.2.1, hF.2.2.2.2.1, hF.2.2.2.2.2.1, hF.2.2.2.2.2.2.1, hF.2.2.2.2.2.2.2.1, hF.2.2.2.2.2.2.2.2.1, hF.2.2.2.2.2.2.2.2.2.1, hF.2.2.2.2.2.2.2.2.2.2.1, hF.2.2.2.2.2.2.2.2.2.2.2⟩
    refine Steps.plain (i := 2) (o := ?a1o2) [] ?a1h2 ?a1g2 ?a1d2 ?a1s2 ?a1r2
    case a1h2 => (simp only [List.getElem?_toArray, List.getElem?_cons_succ, List.getElem?_cons_zero]; rfl)
    case a1g2 => rfl
    case a1d2 => kernel_rfl
    case a1s2 =>
      rintro L aa w h0 _ ⟨v40, v41, v42, v43, v44, v45, v46, v39, v47, v48, v10, v11, bl, gp, bcp, bnp, rfl, hB, hLf, hP, hY, hF⟩ K hK
      simp only [fr, List.foldl_cons, List.foldl_nil, Act.put, List.setIfInBounds_toArray, List.set_cons_zero, List.set_cons_succ]
      go_simp
      exact hK _ _ ⟨v40, v41, (Value.slice A1 N c1), v43, v44, v45, v46, v39, v47, v48, v10, v11, bl, gp, bcp, bnp, (by (simp only [fr, List.foldl_cons, List.foldl_nil, Act.put, List.setIfInBounds_toArray, List.set_cons_zero, List.set_cons_succ]); try rfl), hB, hLf, hP, hY, hF.1, hF.2.1, Lib.hid (fun _ => rfl), hF.2.2.2.1, hF.2.2.2.2.1, hF.2.2.2.2.2.1, hF.2.2.2.2.2.2.1, hF.2.2.2.2.2.2.2.1, hF.2.2.2.2.2.2.2.2.1, hF.2.2.2.2.2.2.2.2.2.1, hF.2.2.2.2.2.2.2.2.2.2.1, hF.2.2.2.2.2.2.2.2.2.2.2⟩
    refine Steps.plain (i := 3) (o := ?a1o3) [2] ?a1h3 ?a1g3 ?a1d3 ?a1s3 ?a1r3
    case a1h3 => (simp only [List.getElem?_toArray, List.getElem?_cons_succ, List.getElem?_cons_zero]; rfl)
    case a1g3 => rfl
    case a1d3 => kernel_rfl
    case a1s3 =>
      rintro L aa w h0 ⟨e2, _⟩ ⟨v40, v41, v42, v43, v44, v45, v46, v39, v47, v48, v10, v11, bl, gp, bcp, bnp, rfl, hB, hLf, hP, hY, hF⟩ K hK
      obtain rfl := (hF.2.2.1).out e2
      simp only [fr, List.foldl_cons, List.foldl_nil, Act.put, List.setIfInBounds_toArray, List.set_cons_zero, List.set_cons_succ]
      go_simp
      exact hK _ _ ⟨v40, v41, (Value.slice A1 N c1), (Value.int .i64 N), v44, v45, v46, v39, v47, v48, v10, v11, bl, gp, bcp, bnp, (by (simp only [fr, List.foldl_cons, List.foldl_nil, Act.put, List.setIfInBounds_toArray, List.set_cons_zero, List.set_cons_succ]); try rfl), hB, hLf, hP, hY, hF.1, hF.2.1, hF.2.2.1, Lib.hid (fun _ => rfl), hF.2.2.2.2.1, hF.2.2.2.2.2.1, hF.2.2.2.2.2.2.1, hF.2.2.2.2.2.2.2.1, hF.2.2.2.2.2.2.2.2.1, hF.2.2.2.2.2.2.2.2.2.1, hF.2.2.2.2.2.2.2.2.2.2.1, hF.2.2.2.2.2.2.2.2.2.2.2⟩
    refine Steps.plain (i := 4) (o := ?a1o4) [] ?a1h4 ?a1g4 ?a1d4 ?a1s4 ?a1r4
    case a1h4 => (simp only [List.getElem?_toArray, List.getElem?_cons_succ, List.getElem?_cons_zero]; rfl)
    case a1g4 => rfl
    case a1d4 => kernel_rfl
    case a1s4 =>
      rintro L aa w h0 _ ⟨v40, v41, v42, v43, v44, v45, v46, v39, v47, v48, v10, v11, bl, gp, bcp, bnp, rfl, hB, hLf, hP, hY, hF⟩ K hK
      simp only [fr, List.foldl_cons, List.foldl_nil, Act.put, List.setIfInBounds_toArray, List.set_cons_zero, List.set_cons_succ]
      have z0 : w.cell? ⟨bx, 0, none⟩ = some (.int .i64 kz) := (VX.out.call hB).cell 0
      have z1 : w.cell? ⟨bx, 1, none⟩ = some (.int .i64 v) := (VX.out.call hB).cell 1
      have z2 : w.cell? ⟨bx, 2, none⟩ = some (.slice A5 q c5) := (VX.out.call hB).cell 2
      go_simp
      exact hK _ _ ⟨v40, v41, v42, v43, (Value.agg #[.int .i64 kz, .int .i64 v, .slice A5 q c5]), v45, v46, v39, v47, v48, v10, v11, bl, gp, bcp, bnp, (by (simp only [fr, List.foldl_cons, List.foldl_nil, Act.put, List.setIfInBounds_toArray, List.set_cons_zero, List.set_cons_succ]); try rfl), hB, hLf, hP, hY, hF.1, hF.2.1, hF.2.2.1, hF.2.2.2.1, Lib.hid (fun _ => rfl), hF.2.2.2.2.2.1, hF.2.2.2.2.2.2.1, hF.2.2.2.2.2.2.2.1, hF.2.2.2.2.2.2.2.2.1, hF.2.2.2.2.2.2.2.2.2.1, hF.2.2.2.2.2.2.2.2.2.2.1, hF.2.2.2.2.2.2.2.2.2.2.2⟩
    refine Steps.plain (i := 5) (o := ?a1o5) [4] ?a1h5 ?a1g5 ?a1d5 ?a1s5 ?a1r5
    case a1h5 => (simp only [List.getElem?_toArray, List.getElem?_cons_succ, List.getElem?_cons_zero]; rfl)
    case a1g5 => rfl
    case a1d5 => kernel_rfl
    case a1s5 =>
      rintro L aa w h0 ⟨e4, _⟩ ⟨v40, v41, v42, v43, v44, v45, v46, v39, v47, v48, v10, v11, bl, gp, bcp, bnp, rfl, hB, hLf, hP, hY, hF⟩ K hK
      obtain rfl := (hF.2.2.2.2.1).out e4
      simp only [fr, List.foldl_cons, List.foldl_nil, Act.put, List.setIfInBounds_toArray, List.set_cons_zero, List.set_cons_succ]
      refine wp_build1 (.tmp 44) slLeafE rfl (by omega) #[.int .i64 kz, .int .i64 v, .slice A5 q c5] rfl rfl ?_
      simp only [Act.put, List.setIfInBounds_toArray, List.set_cons_zero, List.set_cons_succ]
      have f6 : L 6 = false := by rcases h : L 6 with _ | _ <;> first | rfl | exact absurd (hY.1 h) (by simp [h0])
      have f7 : L 7 = false := by rcases h : L 7 with _ | _ <;> first | rfl | exact absurd (hY.2.1 h) (by simp [f6])
      exact hK _ _ ⟨v40, v41, v42, v43, (Value.agg #[.int .i64 kz, .int .i64 v, .slice A5 q c5]), (Value.slice (some ⟨(w.heap.size), 0, none⟩) 1 1), v46, v39, v47, v48, v10, v11, w.heap.size, gp, bcp, bnp, (by (simp only [fr, List.foldl_cons, List.foldl_nil, Act.put, List.setIfInBounds_toArray, List.set_cons_zero, List.set_cons_succ]); try rfl), b_alloc hB _, Lib.hid (fun _ => ⟨rd_lit w _ _ rfl rfl, fun r hr => by simp at hr; subst hr; exact rd_step SX.out (b_alloc hB _)⟩), Lib.hid (no_yet f6), ⟨fun _ => rfl, hY.2.1, hY.2.2.1, hY.2.2.2⟩, hF.1, hF.2.1, hF.2.2.1, hF.2.2.2.1, hF.2.2.2.2.1, Lib.hid (fun _ => rfl), Lib.hid (no_yet f6), hF.2.2.2.2.2.2.2.1, hF.2.2.2.2.2.2.2.2.1, hF.2.2.2.2.2.2.2.2.2.1, hF.2.2.2.2.2.2.2.2.2.2.1, hF.2.2.2.2.2.2.2.2.2.2.2⟩
    refine Steps.plain (i := 6) (o := ?a1o6) [1, 3, 5] ?a1h6 ?a1g6 ?a1d6 ?a1s6 ?a1r6
    case a1h6 => (simp only [List.getElem?_toArray, List.getElem?_cons_succ, List.getElem?_cons_zero]; rfl)
    case a1g6 => rfl
    case a1d6 => kernel_rfl
    case a1s6 =>
      rintro L aa w h0 ⟨e1, e3, e5, _⟩ ⟨v40, v41, v42, v43, v44, v45, v46, v39, v47, v48, v10, v11, bl, gp, bcp, bnp, rfl, hB, hLf, hP, hY, hF⟩ K hK
      obtain rfl := (hF.2.1).out e1
      obtain rfl := (hF.2.2.2.1).out e3
      obtain rfl := (hF.2.2.2.2.2.1).out e5
      simp only [fr, List.foldl_cons, List.foldl_nil, Act.put, List.setIfInBounds_toArray, List.set_cons_zero, List.set_cons_succ]
      have f7 : L 7 = false := by rcases h : L 7 with _ | _ <;> first | rfl | exact absurd (hY.2.1 h) (by simp [h0])
      have f8 : L 8 = false := by rcases h : L 8 with _ | _ <;> first | rfl | exact absurd (hY.2.2.1 h) (by simp [f7])
      have f10 : L 10 = false := by rcases h : L 10 with _ | _ <;> first | rfl | exact absurd (hY.2.2.2 h) (by simp [f8])
      go_simp
      refine (HNP.out _ bl (hLf.out e5)).mono ?_
      rintro e w6 ⟨g6, b6, n6, rfl, hP6, hF6, hb6⟩
      exact hK _ _ ⟨v40, (Value.int .u64 rt), v42, (Value.int .i64 N), v44, (Value.slice (some ⟨bl, 0, none⟩) 1 1), (Value.tuple #[.pointer (some ⟨(g6), 0, none⟩), .int .i64 0]), v39, v47, v48, v10, v11, bl, g6, b6, n6, (by (simp only [fr, List.foldl_cons, List.foldl_nil, Act.put, List.setIfInBounds_toArray, List.set_cons_zero, List.set_cons_succ]); try rfl), b_call hB hb6, Lib.hid (fun h => ((hLf.out h).below hb6 (Nat.le_refl _)).more hb6.size), Lib.hid (fun _ => ⟨hP6, fun k hk => Nat.le_trans hB.size (hF6 k hk)⟩), ⟨fun _ => e5, fun _ => rfl, hY.2.2.1, hY.2.2.2⟩, hF.1, hF.2.1, hF.2.2.1, hF.2.2.2.1, hF.2.2.2.2.1, hF.2.2.2.2.2.1, Lib.hid (fun _ => rfl), Lib.hid (no_yet f7), Lib.hid (no_yet f8), hF.2.2.2.2.2.2.2.2.2.1, Lib.hid (no_yet f10), hF.2.2.2.2.2.2.2.2.2.2.2⟩
    refine Steps.plain (i := 7) (o := ?a1o7) [6] ?a1h7 ?a1g7 ?a1d7 ?a1s7 ?a1r7
    case a1h7 => (simp only [List.getElem?_toArray, List.getElem?_cons_succ, List.getElem?_cons_zero]; rfl)
    case a1g7 => rfl
    case a1d7 => kernel_rfl
    case a1s7 =>
      rintro L aa w h0 ⟨e6, _⟩ ⟨v40, v41, v42, v43, v44, v45, v46, v39, v47, v48, v10, v11, bl, gp, bcp, bnp, rfl, hB, hLf, hP, hY, hF⟩ K hK
      obtain rfl := (hF.2.2.2.2.2.2.1).out e6
      simp only [fr, List.foldl_cons, List.foldl_nil, Act.put, List.setIfInBounds_toArray, List.set_cons_zero, List.set_cons_succ]
      go_simp
      exact hK _ _ ⟨v40, v41, v42, v43, v44, v45, (Value.tuple #[.pointer (some ⟨gp, 0, none⟩), .int .i64 0]), (Value.tuple #[.pointer (some ⟨gp, 0, none⟩), .int .i64 0]), v47, v48, v10, v11, bl, gp, bcp, bnp, (by (simp only [fr, List.foldl_cons, List.foldl_nil, Act.put, List.setIfInBounds_toArray, List.set_cons_zero, List.set_cons_succ]); try rfl), hB, hLf, hP, ⟨hY.1, fun _ => e6, fun _ => rfl, hY.2.2.2⟩, hF.1, hF.2.1, hF.2.2.1, hF.2.2.2.1, hF.2.2.2.2.1, hF.2.2.2.2.2.1, hF.2.2.2.2.2.2.1, Lib.hid (fun _ => rfl), hF.2.2.2.2.2.2.2.2.1, hF.2.2.2.2.2.2.2.2.2.1, hF.2.2.2.2.2.2.2.2.2.2.1, hF.2.2.2.2.2.2.2.2.2.2.2⟩
    refine Steps.plain (i := 8) (o := ?a1o8) [7] ?a1h8 ?a1g8 ?a1d8 ?a1s8 ?a1r8
    case a1h8 => (simp only [List.getElem?_toArray, List.getElem?_cons_succ, List.getElem?_cons_zero]; rfl)
    case a1g8 => rfl
    case a1d8 => kernel_rfl
    case a1s8 =>
      rintro L aa w h0 ⟨e7, _⟩ ⟨v40, v41, v42, v43, v44, v45, v46, v39, v47, v48, v10, v11, bl, gp, bcp, bnp, rfl, hB, hLf, hP, hY, hF⟩ K hK
      obtain rfl := (hF.2.2.2.2.2.2.2.1).out e7
      simp only [fr, List.foldl_cons, List.foldl_nil, Act.put, List.setIfInBounds_toArray, List.set_cons_zero, List.set_cons_succ]
      go_simp
      exact hK _ _ ⟨v40, v41, v42, v43, v44, v45, v46, (Value.tuple #[.pointer (some ⟨gp, 0, none⟩), .int .i64 0]), (Value.pointer (some ⟨gp, 0, none⟩)), v48, v10, v11, bl, gp, bcp, bnp, (by (simp only [fr, List.foldl_cons, List.foldl_nil, Act.put, List.setIfInBounds_toArray, List.set_cons_zero, List.set_cons_succ]); try rfl), hB, hLf, hP, ⟨hY.1, hY.2.1, fun _ => e7, fun _ => rfl⟩, hF.1, hF.2.1, hF.2.2.1, hF.2.2.2.1, hF.2.2.2.2.1, hF.2.2.2.2.2.1, hF.2.2.2.2.2.2.1, hF.2.2.2.2.2.2.2.1, Lib.hid (fun _ => rfl), hF.2.2.2.2.2.2.2.2.2.1, hF.2.2.2.2.2.2.2.2.2.2.1, hF.2.2.2.2.2.2.2.2.2.2.2⟩
    refine Steps.plain (i := 9) (o := ?a1o9) [7] ?a1h9 ?a1g9 ?a1d9 ?a1s9 ?a1r9
    case a1h9 => (simp only [List.getElem?_toArray, List.getElem?_cons_succ, List.getElem?_cons_zero]; rfl)
    case a1g9 => rfl
    case a1d9 => kernel_rfl
    case a1s9 =>
      rintro L aa w h0 ⟨e7, _⟩ ⟨v40, v41, v42, v43, v44, v45, v46, v39, v47, v48, v10, v11, bl, gp, bcp, bnp, rfl, hB, hLf, hP, hY, hF⟩ K hK
      obtain rfl := (hF.2.2.2.2.2.2.2.1).out e7
      simp only [fr, List.foldl_cons, List.foldl_nil, Act.put, List.setIfInBounds_toArray, List.set_cons_zero, List.set_cons_succ]
      go_simp
      exact hK _ _ ⟨v40, v41, v42, v43, v44, v45, v46, (Value.tuple #[.pointer (some ⟨gp, 0, none⟩), .int .i64 0]), v47, (Value.int .i64 0), v10, v11, bl, gp, bcp, bnp, (by (simp only [fr, List.foldl_cons, List.foldl_nil, Act.put, List.setIfInBounds_toArray, List.set_cons_zero, List.set_cons_succ]); try rfl), hB, hLf, hP, hY, hF.1, hF.2.1, hF.2.2.1, hF.2.2.2.1, hF.2.2.2.2.1, hF.2.2.2.2.2.1, hF.2.2.2.2.2.2.1, hF.2.2.2.2.2.2.2.1, hF.2.2.2.2.2.2.2.2.1, Lib.hid (fun _ => rfl), hF.2.2.2.2.2.2.2.2.2.2.1, hF.2.2.2.2.2.2.2.2.2.2.2⟩
    refine Steps.plain (i := 10) (o := ?a1o10) [8] ?a1h10 ?a1g10 ?a1d10 ?a1s10 ?a1r10
    case a1h10 => (simp only [List.getElem?_toArray, List.getElem?_cons_succ, List.getElem?_cons_zero]; rfl)
    case a1g10 => rfl
    case a1d10 => kernel_rfl
    case a1s10 =>
      rintro L aa w h0 ⟨e8, _⟩ ⟨v40, v41, v42, v43, v44, v45, v46, v39, v47, v48, v10, v11, bl, gp, bcp, bnp, rfl, hB, hLf, hP, hY, hF⟩ K hK
      obtain rfl := (hF.2.2.2.2.2.2.2.2.1).out e8
      simp only [fr, List.foldl_cons, List.foldl_nil, Act.put, List.setIfInBounds_toArray, List.set_cons_zero, List.set_cons_succ]
      go_simp
      exact hK _ _ ⟨v40, v41, v42, v43, v44, v45, v46, v39, (Value.pointer (some ⟨gp, 0, none⟩)), v48, (Value.pointer (some ⟨gp, 0, none⟩)), v11, bl, gp, bcp, bnp, (by (simp only [fr, List.foldl_cons, List.foldl_nil, Act.put, List.setIfInBounds_toArray, List.set_cons_zero, List.set_cons_succ]); try rfl), hB, hLf, hP, ⟨hY.1, hY.2.1, hY.2.2.1, fun _ => e8⟩, hF.1, hF.2.1, hF.2.2.1, hF.2.2.2.1, hF.2.2.2.2.1, hF.2.2.2.2.2.1, hF.2.2.2.2.2.2.1, hF.2.2.2.2.2.2.2.1, hF.2.2.2.2.2.2.2.2.1, hF.2.2.2.2.2.2.2.2.2.1, Lib.hid (fun _ => rfl), hF.2.2.2.2.2.2.2.2.2.2.2⟩
    refine Steps.plain (i := 11) (o := ?a1o11) [9] ?a1h11 ?a1g11 ?a1d11 ?a1s11 ?a1r11
    case a1h11 => (simp only [List.getElem?_toArray, List.getElem?_cons_succ, List.getElem?_cons_zero]; rfl)
    case a1g11 => rfl
    case a1d11 => kernel_rfl
    case a1s11 =>
      rintro L aa w h0 ⟨e9, _⟩ ⟨v40, v41, v42, v43, v44, v45, v46, v39, v47, v48, v10, v11, bl, gp, bcp, bnp, rfl, hB, hLf, hP, hY, hF⟩ K hK
      obtain rfl := (hF.2.2.2.2.2.2.2.2.2.1).out e9
      simp only [fr, List.foldl_cons, List.foldl_nil, Act.put, List.setIfInBounds_toArray, List.set_cons_zero, List.set_cons_succ]
      go_simp
      exact hK _ _ ⟨v40, v41, v42, v43, v44, v45, v46, v39, v47, (Value.int .i64 0), v10, (Value.int .i64 0), bl, gp, bcp, bnp, (by (simp only [fr, List.foldl_cons, List.foldl_nil, Act.put, List.setIfInBounds_toArray, List.set_cons_zero, List.set_cons_succ]); try rfl), hB, hLf, hP, hY, hF.1, hF.2.1, hF.2.2.1, hF.2.2.2.1, hF.2.2.2.2.1, hF.2.2.2.2.2.1, hF.2.2.2.2.2.2.1, hF.2.2.2.2.2.2.2.1, hF.2.2.2.2.2.2.2.2.1, hF.2.2.2.2.2.2.2.2.2.1, hF.2.2.2.2.2.2.2.2.2.2.1, Lib.hid (fun _ => rfl)⟩
    exact Steps.nil
  case a1D =>
    rintro L aa w hL ⟨v40, v41, v42, v43, v44, v45, v46, v39, v47, v48, v10, v11, bl, gp, bcp, bnp, rfl, hB, hLf, hP, hY, hF⟩
    obtain rfl := (hF.1).out (hL 0 (by decide))
    obtain rfl := (hF.2.1).out (hL 1 (by decide))
    obtain rfl := (hF.2.2.1).out (hL 2 (by decide))
    obtain rfl := (hF.2.2.2.1).out (hL 3 (by decide))
    obtain rfl := (hF.2.2.2.2.1).out (hL 4 (by decide))
    obtain rfl := (hF.2.2.2.2.2.1).out (hL 5 (by decide))
    obtain rfl := (hF.2.2.2.2.2.2.1).out (hL 6 (by decide))
    obtain rfl := (hF.2.2.2.2.2.2.2.1).out (hL 7 (by decide))
    obtain rfl := (hF.2.2.2.2.2.2.2.2.1).out (hL 8 (by decide))
    obtain rfl := (hF.2.2.2.2.2.2.2.2.2.1).out (hL 9 (by decide))
    obtain rfl := (hF.2.2.2.2.2.2.2.2.2.2.1).out (hL 10 (by decide))
    obtain rfl := (hF.2.2.2.2.2.2.2.2.2.2.2).out (hL 11 (by decide))
    have l0 := hL 0 (by decide)
    have l1 := hL 1 (by decide)
    have l2 := hL 2 (by decide)
    have l3 := hL 3 (by decide)
    have l4 := hL 4 (by decide)
    have l5 := hL 5 (by decide)
    have l6 := hL 6 (by decide)
    have l7 := hL 7 (by decide)
    have l8 := hL 8 (by decide)
    have l9 := hL 9 (by decide)
    have l10 := hL 10 (by decide)
    have l11 := hL 11 (by decide)
    clear hL
    simp only [fr, List.foldl_cons, List.foldl_nil, Act.put, List.setIfInBounds_toArray, List.set_cons_zero, List.set_cons_succ]
    obtain ⟨hP6, hF6⟩ := hP.out l6
    have HP := Lib.hid hP6
    have HFP := Lib.hid hF6
    have TD := Lib.hid (TX.out.call hB)
    have VD := Lib.hid (VX.out.call hB)
    have OD := Lib.hid (own_below OX.out hB)
    have BD := Lib.hid (b_call HBX.out hB)
    have hsD := hB.size
    clear hP6 hF6 hP hLf hY hB l0 l1 l2 l3 l4 l5 l6 l7 l8 l9 l10 l11 TX VX OX HBX SX HNP HRt
    go_wp2
    refine name_world ?_
    intro Y hY
    obtain rfl : Y = w := by rw [hY]
    clear hY
    go_loopw [12] (fun s12 wr => ∃ (j : Nat) (xs : List Value), j ≤ q ∧ s12 = .int .i64 j ∧ Hid (wr.ownsRow w4.heap.size 22 1 (.slice A5 q c5) q xs) ∧ Hid (Only (fun b => (Value.slice A5 q c5).ownBlock = some b) Y wr)) (fun s12 _ => q - (intOf s12).toNat)
    case atStart => exact ⟨0, _, by omega, rfl, OD, Lib.hid (Only.refl _ _)⟩
    case round =>
      obtain ⟨j, xs, hj, rfl, HO, HOn⟩ := hrel
      have x2 : wr.cell? ⟨bx, 2, none⟩ = some (.slice A5 q c5) := only_cell HOn.out (VD.out.cell 2) (fun e => by have := HFX.out _ e; omega)
      by_cases hlt : j < q
      · have d1 : decide ((j : Int) < (q : Int)) = true := by simp; omega
        have d1' : decide (j < q) = true := by simp; omega
        obtain ⟨g5, cur5, hA5, hg5, V5, hcur5, hnc5, hcs5⟩ := own_open HO.out (by omega)
        have hf5 := V5.frozen j
        have hz5 : ∃ u, wr.cell? ⟨g5, j, none⟩ = some u := by
          rw [V5.cell]
          exact ⟨_, Array.getElem?_eq_getElem (by omega)⟩
        obtain ⟨u5, hu5⟩ := hz5
        have hl5 := V5.lt
        have HA5 := Lib.hid hA5
        subst hA5
        clear hcur5 hcs5 V5 hnc5
        go_wp2
        have HOw := Lib.hid (Lib.hid (own_set HO.out j (.int .u64 7)))
        have HOo := Lib.hid (Lib.hid (HOn.out.setCell (p := ⟨g5, j, none⟩) (.inl (show (Value.slice (some (⟨g5, 0, none⟩ : Addr)) q c5).ownBlock = some g5 from rfl)) (.int .u64 7)))
        go_roundw
        case rel => exact ⟨j + 1, _, by omega, by go_num, HOw.out, HOo.out⟩
        case measure => simp [intOf]; omega
      · have d1 : decide ((j : Int) < (q : Int)) = false := by simp; omega
        have d1' : decide (j < q) = false := by simp; omega
        have HP2 := Lib.hid (HP.out.only HOn.out (fun k hk e => by have := HFP.out k hk; have := HFX.out k e; omega))
        have T2 := Lib.hid (TD.out.only HOn.out (fun k hk e => by have := HT4.out k hk; have := HFX.out k e; omega))
        have hw4W := HFW.out
        have B2 := Lib.hid (BD.out.trans (HOn.out.below (B := W.heap.size) BD.out.size (fun k e => by have := HFX.out k e; omega)))
        have hs2 := HOn.out.size
        clear HO HOn HP TD BD VD OD
        go_wp2_with fail
        refine (pt_set HP2.out (by omega) (by rw [HL.out]; omega) kz 5 (by simp)).mono ?_
        rintro e w6 ⟨rfl, P6, O6⟩
        have HP6 := Lib.hid P6
        have T6 := Lib.hid (T2.out.only O6 (fun k hk e => by
          have h1 := HT4.out k hk
          have h2 := HFP.out k (.inr e)
          omega))
        have B6 := Lib.hid (B2.out.trans (O6.below (B := W.heap.size) B2.out.size (fun k e => by have := HFP.out k (.inr e); omega)))
        clear P6 O6 HP2 T2 B2
        go_wp2_with fail
        refine (tset_yes g bc bn cs f0 kz 5 _ T6.out hkl).mono ?_
        rintro e w7 ⟨⟨u, rfl⟩, ⟨f7, T7'⟩, O7⟩
        have T7 := Lib.hid T7'
        have HP7 := Lib.hid (HP6.out.only O7 (fun k hk e => by
          have h1 := HFP.out k hk
          have h2 := HT4.out k (.inr e)
          omega))
        have B7 := Lib.hid (B6.out.trans (O7.below (B := W.heap.size) B6.out.size (fun k e => by have := HFN.out k (.inr e); omega)))
        clear T7' O7 HP6 T6 B6
        obtain ⟨cz, hcz⟩ : ∃ z, cs.set kz 5 = z := ⟨_, rfl⟩
        have hzl : cz.length = N := by rw [← hcz, List.length_set]; exact HL.out
        rw [hcz] at T7 HP7
        have HZ := Lib.hid hzl
        clear hcz hzl
        have hkz2 : kz < cz.length := by rw [HZ.out]; exact hkN
        have HV1 := Lib.hid (verB_prf cz kz hkz2)
        go_wp2_with fail
        refine (pt_root HP7.out).mono ?_
        rintro e w8 ⟨rfl, hb8⟩
        have T8 := Lib.hid (T7.out.call hb8)
        have B8 := Lib.hid (b_call B7.out hb8)
        obtain ⟨rt8, hrt8⟩ : ∃ r, nV cz (hgt cz.length) 0 = r := ⟨_, rfl⟩
        have HR8 := Lib.hid (fun (w : World) (H : Tr w g bc bn cz f7) => troot_any H)
        rw [hrt8] at HV1 HR8
        rw [hrt8]
        clear hrt8 hb8 T7 B7 HP7
        go_wp2_with fail
        refine (HR8.out _ T8.out).mono ?_
        rintro e w_ ⟨rfl, rfl⟩
        have q8 : (rt8 == rt8) = true := beq_self_eq_true rt8
        go_wp2_with fail
        refine (HR8.out _ T8.out).mono ?_
        rintro e w_ ⟨rfl, rfl⟩
        go_wp2_with fail
        refine (prove_yes g bc bn cz f7 kz _ T8.out hkz2).mono ?_
        rintro e w9 ⟨A9, c9, rfl, o9, _, _, hb9⟩
        have S9 := Lib.hid (rd_own o9)
        have B9 := Lib.hid (b_call B8.out hb9)
        obtain ⟨pf, hpf⟩ : ∃ p, prfV cz kz (List.range (hgt cz.length)) = p := ⟨_, rfl⟩
        obtain ⟨v9, hv9⟩ : ∃ v, cz[kz] = v := ⟨_, rfl⟩
        rw [hpf] at S9
        rw [hpf, hv9, HZ.out] at HV1
        rw [hpf, hv9]
        clear o9 hb9 hpf hv9 T8 B8
        go_wp2_with fail
        refine (verify_any rt8 N kz v9 A9 pf.length c9 pf _ (by omega) S9.out).mono ?_
        rintro e w10 ⟨rfl, hb10⟩
        rw [HV1.out]
        have B10 := Lib.hid (b_call B9.out hb10)
        clear hb10 B9
        go_wp2_with fail
        refine (lives_any _).mono ?_
        rintro e w11 ⟨rfl, hb11⟩
        have B11 := Lib.hid (b_call B10.out hb11)
        go_wp2
        go_ret
        exact ⟨rfl, B11.out⟩
end Go.Proofs.Ytgelhcgaacnjcaa
