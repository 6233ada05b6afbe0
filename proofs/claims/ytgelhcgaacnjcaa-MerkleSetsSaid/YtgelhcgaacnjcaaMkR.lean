/-
  WHAT IS PROVED HERE: the walk of the law MerkleSound. No condition but what comes in lies in memory.
-/
import Derived.Test.YtgelhcgaacnjcaaMkQ
namespace Go.Proofs.Ytgelhcgaacnjcaa
set_option linter.unusedVariables false
open Go.ChangeShapes Go.WideShapes Go.ChangeAt Go.RowKit

theorem own_ne {W : World} {B : Nat} {e t : TypeId} {sz : Nat} {v : Value} {n : Nat} {xs : List Value} {b : Nat} {cs : Array Value} (h : W.ownsRow B e sz v n xs) (hV : Vr W b t cs) (hne : e ≠ t) {k : Nat} (hk : v.ownBlock = some k) : ¬ k = b := by
  rintro rfl
  obtain ⟨_, cur, hc⟩ := own_cells h hk
  unfold Vr at hV
  rw [hV] at hc
  injection hc with hc
  injection hc with _ h2
  exact hne h2.symm
set_option maxRecDepth 100000 in
set_option maxHeartbeats 4000000 in
theorem sound_walk (A : Option Addr) (n c : Nat) (l : List Int) (i how by_ : Int) (w : World) (rd : Rd w w.heap.size 1 A n (l.map (Value.int .i64))) (hn : n ≤ c) (hc : c ≤ maxLen) (hli : ∀ x ∈ l, I64 x) (hi : I64 i) (hh : I64 how) (hb : I64 by_) :
    Calls Try.prog 4 #[.slice A n c, .int .i64 i, .int .i64 how, .int .i64 by_] w fun e w' => e = .returned (.bool true) ∧ Below w.heap.size w w' := by
  have hll : l.length = n := by have := rd.1; simpa using this
  have HL := Lib.hid (take20 hll)
  have HI := Lib.hid (fun x (hx : x ∈ l.take 20) => hli x (List.mem_of_mem_take hx))
  have RD := Lib.hid rd
  have HN := Lib.hid hn
  have HC := Lib.hid hc
  have HBY := Lib.hid hb
  obtain ⟨i1, i2⟩ := hi
  obtain ⟨h1, h2⟩ := hh
  clear rd hn hc hll hb hli
  go_enter Try.func4, Try.ntmps4
  go_wp2_with fail
  refine (cells_any A n c l _ RD.out HN.out HC.out).mono ?_
  rintro e w1 ⟨A1, c1, rfl, _, _, o1, hb1⟩
  obtain ⟨N, hN⟩ : ∃ N, min n 20 = N := ⟨_, rfl⟩
  obtain ⟨cs, hcs⟩ : ∃ cs, l.take 20 = cs := ⟨_, rfl⟩
  have hN20 : N ≤ 20 := by rw [← hN]; exact Nat.min_le_right _ _
  rw [hN, hcs] at o1 HL
  rw [hcs] at HI
  rw [hN]
  have R1 := Lib.hid (rd_own o1)
  have HB1 := Lib.hid hb1
  clear o1 hN hcs hb1
  by_cases h0 : N = 0
  · have q0 : ((N : Int) == 0) = true := by rw [beq_iff_eq]; omega
    clear h0
    go_wp2_with fail
    refine (lives_any _).mono ?_
    rintro e w2 ⟨rfl, hb2⟩
    have hb := b_call HB1.out hb2
    go_wp2
    go_ret
    exact ⟨rfl, hb⟩
  have q0 : ((N : Int) == 0) = false := by rw [beq_eq_false_iff_ne]; omega
  go_wp2_with fail
  refine (new_any A1 N c1 cs _ R1.out (by omega)).mono ?_
  rintro e w2 ⟨g, bc, bn, f, rfl, T, _, hb2⟩
  have T2 := Lib.hid T
  have HB2 := Lib.hid (b_call HB1.out hb2)
  clear T hb2
  go_wp2_with fail
  refine (around_any i N _ i1 i2 (by omega) (by omega)).mono ?_
  rintro e w_ ⟨rfl, rfl⟩
  have hk := around_bd i N (by omega)
  obtain ⟨k, hk0⟩ : ∃ k : Nat, around i N = k := ⟨(around i N).toNat, by omega⟩
  rw [hk0] at hk ⊢
  clear hk0
  have hkl : k < cs.length := by rw [HL.out]; omega
  go_wp2_with fail
  refine (prove_yes g bc bn cs f k _ T2.out hkl).mono ?_
  rintro e w3 ⟨A5, c5, rfl, o5, _, _, hb5⟩
  have S5 := Lib.hid (rd_own o5)
  have T3 := Lib.hid (T2.out.call hb5)
  have HB3 := Lib.hid (b_call HB2.out hb5)
  obtain ⟨q, hq⟩ : ∃ q, hgt cs.length = q := ⟨_, rfl⟩
  have hq5 : q ≤ 5 := by rw [← hq]; exact hgt_min (by rw [HL.out]; omega)
  have HV1 := Lib.hid (verB_prf cs k hkl)
  have HV2 := Lib.hid (fun kk d h1 h2 h3 h4 => verB_bent cs k hkl (HI.out _ (List.getElem_mem hkl)) kk d h1 h2 h3 h4)
  have HR := Lib.hid (fun (w : World) (H : Tr w g bc bn cs f) => troot_any H)
  obtain ⟨v, hv⟩ : ∃ v, cs[k] = v := ⟨_, rfl⟩
  rw [hq] at S5 HV1 HV2 HR
  rw [hq]
  rw [hv] at HV1 HV2
  obtain ⟨pf, hpf⟩ : ∃ pf, prfV cs k (List.range q) = pf := ⟨_, rfl⟩
  have hpl : pf.length = q := by rw [← hpf, prfV_len, List.length_range]
  rw [hpf] at S5 HV1 HV2
  obtain ⟨r, hr⟩ : ∃ r, nV cs q 0 = r := ⟨_, rfl⟩
  rw [hr] at HV1 HV2 HR
  rw [HL.out] at HV1 HV2
  rw [hpl] at S5
  have HPL := Lib.hid hpl
  rw [hpf, hpl, hv]
  clear o5 hb5 hq hv hpf hpl hr hkl
  go_wp2
  refine name_world ?_
  intro X hX
  obtain ⟨bx, hbx⟩ : ∃ x, w3.heap.size = x := ⟨_, rfl⟩
  have hbX : Below w3.heap.size w3 X := by rw [hX]; (repeat (first | (with_reducible exact Below.refl _ _) | (with_reducible assumption) | (with_reducible refine b_drew ?_) | (with_reducible refine b_drewN ?_ _) | (with_reducible refine b_alloc ?_ _) | ((with_reducible refine b_set ?_ ?_ _); rotate_left; (focus (first | omega | (simp; done) | (simp; omega) | (simp at *; omega)))) | (with_reducible refine b_call ?_ (by with_reducible assumption))))
  have VX := Lib.hid (show Vr X bx 25 #[.int .i64 k, .int .i64 v, .slice A5 q c5] from by rw [hX, ← hbx]; exact Vr.new w3 _ _)
  have TX := Lib.hid (T3.out.call hbX)
  have HBX := Lib.hid (b_call HB3.out hbX)
  have SX := Lib.hid (rd_step S5.out hbX)
  rw [hbx]
  clear hX hbx hbX S5 T3
  have hha := around_bd how (1 + (q : Int)) (by omega)
  obtain ⟨a, ha⟩ : ∃ a, around how (1 + (q : Int)) = a := ⟨_, rfl⟩
  rw [ha] at hha
  have HA := Lib.hid ha
  have hd := around_bd by_ 1000000 (by omega)
  have HV2 := Lib.hid (HV2.out (1 + a) (1 + around by_ 1000000) (by omega) (by omega) (by omega) (by omega))
  have HBT := Lib.hid (fun (w : World) (S : Rd w w.heap.size 1 A5 q (pf.map (Value.int .u64))) => bent_any k v A5 q c5 pf (1 + a) by_ w S (by omega) ⟨by omega, by omega⟩ HBY.out)
  rw [HPL.out, around_small (show 0 ≤ 1 + a by omega) (show 1 + a < 2 + (q : Int) by omega)] at HBT
  obtain ⟨⟨y1, y2, y3⟩, hy⟩ : ∃ y, bentOf k v pf (1 + a) (1 + around by_ 1000000) = y := ⟨_, rfl⟩
  rw [hy] at HV2 HBT
  simp only at HV2
  have E5 := Lib.hid (show IntKind.i64.wrap (1 + (q : Int)) = 1 + (q : Int) from IntWalk.i64_in _ (by omega))
  have E7 := Lib.hid (show IntKind.i64.wrap (1 + a) = 1 + a from IntWalk.i64_in _ (by omega))
  have HAR := Lib.hid (fun w => around_any how (1 + (q : Int)) w h1 h2 (by omega) (by omega))
  rw [HA.out] at HAR
  clear ha hy hd h1 h2 i1 i2 q0
  refine wp_region_any (by kernel_rfl) ?_
  change wpAny _ _ _ _ _ _ _ (World.drew _)
  refine take_at (i := 1) (some 30) (v := ?vg6) rfl rfl (by kernel_rfl) (by kernel_rfl) (by kernel_rfl) (fun _ _ _ h => h) (Or.inl ⟨by rfl, ?hg6⟩) ?rg6
  case hg6 => (intro w0; go_simp; try with_reducible rfl)
  simp only [Act.put, List.setIfInBounds_toArray, List.set_cons_zero, List.set_cons_succ]
  refine take_at (i := 2) (some 31) (v := ?vg7) rfl rfl (by kernel_rfl) (by kernel_rfl) (by kernel_rfl) (fun _ _ _ h => h) (Or.inl ⟨by rfl, ?hg7⟩) ?rg7
  case hg7 => (intro w0; go_simp; try with_reducible rfl)
  simp only [Act.put, List.setIfInBounds_toArray, List.set_cons_zero, List.set_cons_succ]
  refine take_at (i := 8) (some 37) (v := ?vg8) rfl rfl (by kernel_rfl) (by kernel_rfl) (by kernel_rfl) (fun _ _ _ h => h) (Or.inl ⟨by rfl, ?hg8⟩) ?rg8
  case hg8 => (intro w0; go_simp; try with_reducible rfl)
  simp only [Act.put, List.setIfInBounds_toArray, List.set_cons_zero, List.set_cons_succ]
  refine wpAny_go (fun A0 L aa w => ∃ (v29 v32 v33 v34 v35 v36 v38 v12 : Value) (A6 : Option Addr) (c6 : Nat) (hb : Nat), aa = fr A0 [(29, v29), (32, v32), (33, v33), (34, v34), (35, v35), (36, v36), (38, v38), (12, v12)] ∧ (Below X.heap.size X w) ∧ (L 11 = true → L 9 = true ∧ L 10 = true) ∧ (Hid (L 9 = true → w.ownsRow X.heap.size 22 1 (.slice A6 y3.length c6) y3.length (y3.map (Value.int .u64)))) ∧ (Hid (L 10 = true → X.heap.size ≤ hb ∧ (L 11 = false → Vr w hb 25 #[.int .i64 0, .int .i64 0, .slice none 0 0]) ∧ (L 11 = true → Vr w hb 25 #[.int .i64 y1, .int .i64 y2, .slice A6 y3.length c6]))) ∧ Hid (L 0 = true → v29 = Value.agg #[.int .i64 k, .int .i64 v, .slice A5 q c5]) ∧ Hid (L 3 = true → v32 = Value.slice A5 q c5) ∧ Hid (L 4 = true → v33 = Value.int .i64 q) ∧ Hid (L 5 = true → v34 = Value.int .i64 (1 + (q : Int))) ∧ Hid (L 6 = true → v35 = Value.int .i64 a) ∧ Hid (L 7 = true → v36 = Value.int .i64 (1 + a)) ∧ Hid (L 9 = true → v38 = Value.agg #[.int .i64 y1, .int .i64 y2, .slice A6 y3.length c6]) ∧ Hid (L 10 = true → v12 = Value.pointer (some ⟨hb, 0, none⟩))) [0, 3, 4, 5, 6, 7, 9, 10, 11] (by kernel_rfl) (by kernel_rfl) ?a5I ?a5S ?a5D
  case a5I =>
    refine ⟨?a5v29, ?a5v32, ?a5v33, ?a5v34, ?a5v35, ?a5v36, ?a5v38, ?a5v12, none, 0, 0, ?a5fr, b_drew (Below.refl _ _), no_yet (by kernel_rfl), Lib.hid (no_yet (by kernel_rfl)), Lib.hid (no_yet (by kernel_rfl)), Lib.hid (no_yet (by kernel_rfl)), Lib.hid (no_yet (by kernel_rfl)), Lib.hid (no_yet (by kernel_rfl)), Lib.hid (no_yet (by kernel_rfl)), Lib.hid (no_yet (by kernel_rfl)), Lib.hid (no_yet (by kernel_rfl)), Lib.hid (no_yet (by kernel_rfl)), Lib.hid (no_yet (by kernel_rfl))⟩
    case a5fr => (simp only [fr, List.foldl_cons, List.foldl_nil, Act.put, List.setIfInBounds_toArray, List.set_cons_zero, List.set_cons_succ]; rfl)
  case a5S =>
    refine Steps.plain (i := 0) (o := ?a5o0) [] ?a5h0 ?a5g0 ?a5d0 ?a5s0 ?a5r0
    case a5h0 => (simp only [List.getElem?_toArray, List.getElem?_cons_zero]; rfl)
    case a5g0 => rfl
    case a5d0 => kernel_rfl
    case a5s0 =>
      rintro L aa w h0 _ ⟨v29, v32, v33, v34, v35, v36, v38, v12, A6, c6, hb, rfl, hB, hY, hA, hV, hF⟩ K hK
      simp only [fr, List.foldl_cons, List.foldl_nil, Act.put, List.setIfInBounds_toArray, List.set_cons_zero, List.set_cons_succ]
      have z0 : w.cell? ⟨bx, 0, none⟩ = some (.int .i64 k) := (VX.out.call hB).cell 0
      have z1 : w.cell? ⟨bx, 1, none⟩ = some (.int .i64 v) := (VX.out.call hB).cell 1
      have z2 : w.cell? ⟨bx, 2, none⟩ = some (.slice A5 q c5) := (VX.out.call hB).cell 2
      go_simp
      exact hK _ _ ⟨(Value.agg #[.int .i64 k, .int .i64 v, .slice A5 q c5]), v32, v33, v34, v35, v36, v38, v12, A6, c6, hb, (by (simp only [fr, List.foldl_cons, List.foldl_nil, Act.put, List.setIfInBounds_toArray, List.set_cons_zero, List.set_cons_succ]); try rfl), hB, hY, hA, hV, Lib.hid (fun _ => rfl), hF.2.1, hF.2.2.1, hF.2.2.2.1, hF.2.2.2.2.1, hF.2.2.2.2.2.1, hF.2.2.2.2.2.2.1, hF.2.2.2.2.2.2.2⟩
    refine Steps.plain (i := 3) (o := ?a5o3) [] ?a5h3 ?a5g3 ?a5d3 ?a5s3 ?a5r3
    case a5h3 => (simp only [List.getElem?_toArray, List.getElem?_cons_succ, List.getElem?_cons_zero]; rfl)
    case a5g3 => rfl
    case a5d3 => kernel_rfl
    case a5s3 =>
      rintro L aa w h0 _ ⟨v29, v32, v33, v34, v35, v36, v38, v12, A6, c6, hb, rfl, hB, hY, hA, hV, hF⟩ K hK
      simp only [fr, List.foldl_cons, List.foldl_nil, Act.put, List.setIfInBounds_toArray, List.set_cons_zero, List.set_cons_succ]
      have z2 : w.cell? ⟨bx, 2, none⟩ = some (.slice A5 q c5) := (VX.out.call hB).cell 2
      go_simp
      exact hK _ _ ⟨v29, (Value.slice A5 q c5), v33, v34, v35, v36, v38, v12, A6, c6, hb, (by (simp only [fr, List.foldl_cons, List.foldl_nil, Act.put, List.setIfInBounds_toArray, List.set_cons_zero, List.set_cons_succ]); try rfl), hB, hY, hA, hV, hF.1, Lib.hid (fun _ => rfl), hF.2.2.1, hF.2.2.2.1, hF.2.2.2.2.1, hF.2.2.2.2.2.1, hF.2.2.2.2.2.2.1, hF.2.2.2.2.2.2.2⟩
    refine Steps.plain (i := 4) (o := ?a5o4) [3] ?a5h4 ?a5g4 ?a5d4 ?a5s4 ?a5r4
    case a5h4 => (simp only [List.getElem?_toArray, List.getElem?_cons_succ, List.getElem?_cons_zero]; rfl)
    case a5g4 => rfl
    case a5d4 => kernel_rfl
    case a5s4 =>
      rintro L aa w h0 ⟨e3, _⟩ ⟨v29, v32, v33, v34, v35, v36, v38, v12, A6, c6, hb, rfl, hB, hY, hA, hV, hF⟩ K hK
      obtain rfl := (hF.2.1).out e3
      simp only [fr, List.foldl_cons, List.foldl_nil, Act.put, List.setIfInBounds_toArray, List.set_cons_zero, List.set_cons_succ]
      go_simp
      exact hK _ _ ⟨v29, (Value.slice A5 q c5), (Value.int .i64 q), v34, v35, v36, v38, v12, A6, c6, hb, (by (simp only [fr, List.foldl_cons, List.foldl_nil, Act.put, List.setIfInBounds_toArray, List.set_cons_zero, List.set_cons_succ]); try rfl), hB, hY, hA, hV, hF.1, hF.2.1, Lib.hid (fun _ => rfl), hF.2.2.2.1, hF.2.2.2.2.1, hF.2.2.2.2.2.1, hF.2.2.2.2.2.2.1, hF.2.2.2.2.2.2.2⟩
    refine Steps.plain (i := 5) (o := ?a5o5) [4] ?a5h5 ?a5g5 ?a5d5 ?a5s5 ?a5r5
    case a5h5 => (simp only [List.getElem?_toArray, List.getElem?_cons_succ, List.getElem?_cons_zero]; rfl)
    case a5g5 => rfl
    case a5d5 => kernel_rfl
    case a5s5 =>
      rintro L aa w h0 ⟨e4, _⟩ ⟨v29, v32, v33, v34, v35, v36, v38, v12, A6, c6, hb, rfl, hB, hY, hA, hV, hF⟩ K hK
      obtain rfl := (hF.2.2.1).out e4
      simp only [fr, List.foldl_cons, List.foldl_nil, Act.put, List.setIfInBounds_toArray, List.set_cons_zero, List.set_cons_succ]
      have x := E5.out
      go_simp
      exact hK _ _ ⟨v29, v32, (Value.int .i64 q), (Value.int .i64 (1 + (q : Int))), v35, v36, v38, v12, A6, c6, hb, (by (simp only [fr, List.foldl_cons, List.foldl_nil, Act.put, List.setIfInBounds_toArray, List.set_cons_zero, List.set_cons_succ]); try rfl), hB, hY, hA, hV, hF.1, hF.2.1, hF.2.2.1, Lib.hid (fun _ => rfl), hF.2.2.2.2.1, hF.2.2.2.2.2.1, hF.2.2.2.2.2.2.1, hF.2.2.2.2.2.2.2⟩
    refine Steps.plain (i := 6) (o := ?a5o6) [5] ?a5h6 ?a5g6 ?a5d6 ?a5s6 ?a5r6
    case a5h6 => (simp only [List.getElem?_toArray, List.getElem?_cons_succ, List.getElem?_cons_zero]; rfl)
    case a5g6 => rfl
    case a5d6 => kernel_rfl
    case a5s6 =>
      rintro L aa w h0 ⟨e5, _⟩ ⟨v29, v32, v33, v34, v35, v36, v38, v12, A6, c6, hb, rfl, hB, hY, hA, hV, hF⟩ K hK
      obtain rfl := (hF.2.2.2.1).out e5
      simp only [fr, List.foldl_cons, List.foldl_nil, Act.put, List.setIfInBounds_toArray, List.set_cons_zero, List.set_cons_succ]
      go_simp
      refine (HAR.out _).mono ?_
      rintro e w5 ⟨rfl, rfl⟩
      exact hK _ _ ⟨v29, v32, v33, (Value.int .i64 (1 + (q : Int))), (Value.int .i64 a), v36, v38, v12, A6, c6, hb, (by (simp only [fr, List.foldl_cons, List.foldl_nil, Act.put, List.setIfInBounds_toArray, List.set_cons_zero, List.set_cons_succ]); try rfl), hB, hY, hA, hV, hF.1, hF.2.1, hF.2.2.1, hF.2.2.2.1, Lib.hid (fun _ => rfl), hF.2.2.2.2.2.1, hF.2.2.2.2.2.2.1, hF.2.2.2.2.2.2.2⟩
    refine Steps.plain (i := 7) (o := ?a5o7) [6] ?a5h7 ?a5g7 ?a5d7 ?a5s7 ?a5r7
    case a5h7 => (simp only [List.getElem?_toArray, List.getElem?_cons_succ, List.getElem?_cons_zero]; rfl)
    case a5g7 => rfl
    case a5d7 => kernel_rfl
    case a5s7 =>
      rintro L aa w h0 ⟨e6, _⟩ ⟨v29, v32, v33, v34, v35, v36, v38, v12, A6, c6, hb, rfl, hB, hY, hA, hV, hF⟩ K hK
      obtain rfl := (hF.2.2.2.2.1).out e6
      simp only [fr, List.foldl_cons, List.foldl_nil, Act.put, List.setIfInBounds_toArray, List.set_cons_zero, List.set_cons_succ]
      have x := E7.out
      go_simp
      exact hK _ _ ⟨v29, v32, v33, v34, (Value.int .i64 a), (Value.int .i64 (1 + a)), v38, v12, A6, c6, hb, (by (simp only [fr, List.foldl_cons, List.foldl_nil, Act.put, List.setIfInBounds_toArray, List.set_cons_zero, List.set_cons_succ]); try rfl), hB, hY, hA, hV, hF.1, hF.2.1, hF.2.2.1, hF.2.2.2.1, hF.2.2.2.2.1, Lib.hid (fun _ => rfl), hF.2.2.2.2.2.2.1, hF.2.2.2.2.2.2.2⟩
    refine Steps.plain (i := 9) (o := ?a5o9) [0, 7] ?a5h9 ?a5g9 ?a5d9 ?a5s9 ?a5r9
    case a5h9 => (simp only [List.getElem?_toArray, List.getElem?_cons_succ, List.getElem?_cons_zero]; rfl)
    case a5g9 => rfl
    case a5d9 => kernel_rfl
    case a5s9 =>
      rintro L aa w h0 ⟨e0, e7, _⟩ ⟨v29, v32, v33, v34, v35, v36, v38, v12, A6, c6, hb, rfl, hB, hY, hA, hV, hF⟩ K hK
      obtain rfl := (hF.1).out e0
      obtain rfl := (hF.2.2.2.2.2.1).out e7
      simp only [fr, List.foldl_cons, List.foldl_nil, Act.put, List.setIfInBounds_toArray, List.set_cons_zero, List.set_cons_succ]
      have e11 : L 11 = false := by rcases h : L 11 with _ | _ <;> first | rfl | exact absurd (hY h).1 (by simp [h0])
      go_simp
      refine (HBT.out _ (rd_step SX.out hB)).mono ?_
      rintro e w5 ⟨A7, c7, rfl, o7, _, _, hb7⟩
      exact hK _ _ ⟨(Value.agg #[.int .i64 k, .int .i64 v, .slice A5 q c5]), v32, v33, v34, v35, (Value.int .i64 (1 + a)), (Value.agg #[.int .i64 y1, .int .i64 y2, .slice (A7) y3.length (c7)]), v12, A7, c7, hb, (by (simp only [fr, List.foldl_cons, List.foldl_nil, Act.put, List.setIfInBounds_toArray, List.set_cons_zero, List.set_cons_succ]); try rfl), b_call hB hb7, fun h => ⟨rfl, (hY h).2⟩, Lib.hid (fun _ => own_mono o7 hB.size), Lib.hid (fun l => by obtain ⟨q1, q2, _⟩ := hV.out l; exact ⟨q1, fun h => (q2 h).call hb7, no_yet e11⟩), hF.1, hF.2.1, hF.2.2.1, hF.2.2.2.1, hF.2.2.2.2.1, hF.2.2.2.2.2.1, Lib.hid (fun _ => rfl), hF.2.2.2.2.2.2.2⟩
    refine Steps.plain (i := 10) (o := ?a5o10) [] ?a5h10 ?a5g10 ?a5d10 ?a5s10 ?a5r10
    case a5h10 => (simp only [List.getElem?_toArray, List.getElem?_cons_succ, List.getElem?_cons_zero]; rfl)
    case a5g10 => rfl
    case a5d10 => kernel_rfl
    case a5s10 =>
      rintro L aa w h0 _ ⟨v29, v32, v33, v34, v35, v36, v38, v12, A6, c6, hb, rfl, hB, hY, hA, hV, hF⟩ K hK
      simp only [fr, List.foldl_cons, List.foldl_nil, Act.put, List.setIfInBounds_toArray, List.set_cons_zero, List.set_cons_succ]
      have e11 : L 11 = false := by rcases h : L 11 with _ | _ <;> first | rfl | exact absurd (hY h).2 (by simp [h0])
      go_simp
      exact hK _ _ ⟨v29, v32, v33, v34, v35, v36, v38, (Value.pointer (some ⟨(w.heap.size), 0, none⟩)), A6, c6, w.heap.size, (by (simp only [fr, List.foldl_cons, List.foldl_nil, Act.put, List.setIfInBounds_toArray, List.set_cons_zero, List.set_cons_succ]); try rfl), b_alloc hB _, fun h => ⟨(hY h).1, rfl⟩, Lib.hid (fun l => (hA.out l).alloc _), Lib.hid (fun _ => ⟨hB.size, fun _ => Vr.new w _ _, no_yet e11⟩), hF.1, hF.2.1, hF.2.2.1, hF.2.2.2.1, hF.2.2.2.2.1, hF.2.2.2.2.2.1, hF.2.2.2.2.2.2.1, Lib.hid (fun _ => rfl)⟩
    refine Steps.plain (i := 11) (o := ?a5o11) [9, 10] ?a5h11 ?a5g11 ?a5d11 ?a5s11 ?a5r11
    case a5h11 => (simp only [List.getElem?_toArray, List.getElem?_cons_succ, List.getElem?_cons_zero]; rfl)
    case a5g11 => rfl
    case a5d11 => kernel_rfl
    case a5s11 =>
      rintro L aa w h0 ⟨e9, e10, _⟩ ⟨v29, v32, v33, v34, v35, v36, v38, v12, A6, c6, hb, rfl, hB, hY, hA, hV, hF⟩ K hK
      obtain rfl := (hF.2.2.2.2.2.2.1).out e9
      obtain rfl := (hF.2.2.2.2.2.2.2).out e10
      simp only [fr, List.foldl_cons, List.foldl_nil, Act.put, List.setIfInBounds_toArray, List.set_cons_zero, List.set_cons_succ]
      obtain ⟨hv0, hv1, _⟩ := hV.out e10
      have v0 := hv1 h0
      have HV0 := Lib.hid v0
      have u0 : w.cell? ⟨hb, 0, none⟩ = some (.int .i64 0) := v0.cell 0
      have u1 : w.cell? ⟨hb, 1, none⟩ = some (.int .i64 0) := v0.cell 1
      have u2 : w.cell? ⟨hb, 2, none⟩ = some (.slice none 0 0) := v0.cell 2
      have u3 := v0.frozen
      have u4 := v0.lt
      clear v0 hv1
      go_simp
      exact hK _ _ ⟨v29, v32, v33, v34, v35, v36, (Value.agg #[.int .i64 y1, .int .i64 y2, .slice A6 y3.length c6]), (Value.pointer (some ⟨hb, 0, none⟩)), A6, c6, hb, (by (simp only [fr, List.foldl_cons, List.foldl_nil, Act.put, List.setIfInBounds_toArray, List.set_cons_zero, List.set_cons_succ]); try rfl), b_set (b_set (b_set hB hv0 _) hv0 _) hv0 _, fun _ => ⟨e9, e10⟩, Lib.hid (fun l => own_only (hA.out l) (o_set (o_set (o_set (Only.refl _ _) _ _) _ _) _ _) (fun j e => own_ne (hA.out l) HV0.out (by decide) e)), Lib.hid (fun _ => ⟨hv0, (fun h => by cases h), fun _ => vr_set3 HV0.out _ _ _⟩), hF.1, hF.2.1, hF.2.2.1, hF.2.2.2.1, hF.2.2.2.2.1, hF.2.2.2.2.2.1, hF.2.2.2.2.2.2.1, hF.2.2.2.2.2.2.2⟩
    exact Steps.nil
  case a5D =>
    rintro L aa w hL ⟨v29, v32, v33, v34, v35, v36, v38, v12, A6, c6, hb, rfl, hB, hY, hA, hV, hF⟩
    obtain rfl := (hF.1).out (hL 0 (by decide))
    obtain rfl := (hF.2.1).out (hL 3 (by decide))
    obtain rfl := (hF.2.2.1).out (hL 4 (by decide))
    obtain rfl := (hF.2.2.2.1).out (hL 5 (by decide))
    obtain rfl := (hF.2.2.2.2.1).out (hL 6 (by decide))
    obtain rfl := (hF.2.2.2.2.2.1).out (hL 7 (by decide))
    obtain rfl := (hF.2.2.2.2.2.2.1).out (hL 9 (by decide))
    obtain rfl := (hF.2.2.2.2.2.2.2).out (hL 10 (by decide))
    have l0 := hL 0 (by decide)
    have l3 := hL 3 (by decide)
    have l4 := hL 4 (by decide)
    have l5 := hL 5 (by decide)
    have l6 := hL 6 (by decide)
    have l7 := hL 7 (by decide)
    have l9 := hL 9 (by decide)
    have l10 := hL 10 (by decide)
    have l11 := hL 11 (by decide)
    clear hL
    simp only [fr, List.foldl_cons, List.foldl_nil, Act.put, List.setIfInBounds_toArray, List.set_cons_zero, List.set_cons_succ]
    have VY := Lib.hid ((hV.out l10).2.2 l11)
    have SY := Lib.hid (rd_own (hA.out l9))
    clear hV hA hY l3 l4 l5 l6 l7 l9 l10 l11 l0
    go_wp2
    obtain ⟨Z, rfl⟩ : ∃ Z : World, Z = w := ⟨_, rfl⟩
    have TZ := Lib.hid (TX.out.call hB)
    have SXZ := Lib.hid (rd_step SX.out hB)
    have VXZ := Lib.hid (VX.out.call hB)
    have HBZ := Lib.hid (b_call HBX.out hB)
    clear hB TX SX VX HBX HBT HAR
    refine wp_region_any (by kernel_rfl) ?_
    change wpAny _ _ _ _ _ _ _ (World.drew _)
    refine take_at (i := 0) (some 39) (v := ?vg2) rfl rfl (by kernel_rfl) (by kernel_rfl) (by kernel_rfl) (fun _ _ _ h => h) (Or.inl ⟨by rfl, ?hg2⟩) ?rg2
    case hg2 => (intro w0; go_simp; try with_reducible rfl)
    simp only [Act.put, List.setIfInBounds_toArray, List.set_cons_zero, List.set_cons_succ]
    refine take_at (i := 2) (some 41) (v := ?vg3) rfl rfl (by kernel_rfl) (by kernel_rfl) (by kernel_rfl) (fun _ _ _ h => h) (Or.inl ⟨by rfl, ?hg3⟩) ?rg3
    case hg3 => (intro w0; go_simp; try with_reducible rfl)
    simp only [Act.put, List.setIfInBounds_toArray, List.set_cons_zero, List.set_cons_succ]
    refine take_at (i := 3) (some 42) (v := ?vg4) rfl rfl (by kernel_rfl) (by kernel_rfl) (by kernel_rfl) (fun _ _ _ h => h) (Or.inl ⟨by rfl, ?hg4⟩) ?rg4
    case hg4 => (intro w0; go_simp; try with_reducible rfl)
    simp only [Act.put, List.setIfInBounds_toArray, List.set_cons_zero, List.set_cons_succ]
    refine wpAny_go (fun A0 L aa w => ∃ (v40 v43 v44 v45 v46 v47 v48 v49 v50 v51 v52 v53 v54 v55 v56 v8 : Value), aa = fr A0 [(40, v40), (43, v43), (44, v44), (45, v45), (46, v46), (47, v47), (48, v48), (49, v49), (50, v50), (51, v51), (52, v52), (53, v53), (54, v54), (55, v55), (56, v56), (8, v8)] ∧ (Below Z.heap.size Z w) ∧ Hid (L 1 = true → v40 = Value.int .u64 r) ∧ Hid (L 4 = true → v43 = Value.agg #[.int .i64 k, .int .i64 v, .slice A5 q c5]) ∧ Hid (L 5 = true → v44 = Value.bool true) ∧ Hid (L 6 = true → v45 = Value.bool true) ∧ Hid (L 7 = true → v46 = Value.pointer (some ⟨g, 0, none⟩)) ∧ Hid (L 8 = true → v47 = Value.int .u64 r) ∧ Hid (L 9 = true → v48 = Value.slice A1 N c1) ∧ Hid (L 10 = true → v49 = Value.int .i64 N) ∧ Hid (L 11 = true → v50 = Value.agg #[.int .i64 y1, .int .i64 y2, .slice A6 y3.length c6]) ∧ Hid (L 12 = true → v51 = Value.bool false) ∧ Hid (L 13 = true → v52 = Value.bool true) ∧ Hid (L 14 = true → v53 = Value.bool true) ∧ Hid (L 15 = true → v54 = Value.bool true) ∧ Hid (L 16 = true → v55 = Value.bool true) ∧ Hid (L 17 = true → v56 = Value.bool true) ∧ Hid (L 18 = true → v8 = Value.bool true)) [1, 4, 5, 6, 7, 8, 9, 10, 11, 12, 13, 14, 15, 16, 17, 18] (by kernel_rfl) (by kernel_rfl) ?a1I ?a1S ?a1D
    case a1I =>
      refine ⟨?a1v40, ?a1v43, ?a1v44, ?a1v45, ?a1v46, ?a1v47, ?a1v48, ?a1v49, ?a1v50, ?a1v51, ?a1v52, ?a1v53, ?a1v54, ?a1v55, ?a1v56, ?a1v8, ?a1fr, b_drew (Below.refl _ _), Lib.hid (no_yet (by kernel_rfl)), Lib.hid (no_yet (by kernel_rfl)), Lib.hid (no_yet (by kernel_rfl)), Lib.hid (no_yet (by kernel_rfl)), Lib.hid (no_yet (by kernel_rfl)), Lib.hid (no_yet (by kernel_rfl)), Lib.hid (no_yet (by kernel_rfl)), Lib.hid (no_yet (by kernel_rfl)), Lib.hid (no_yet (by kernel_rfl)), Lib.hid (no_yet (by kernel_rfl)), Lib.hid (no_yet (by kernel_rfl)), Lib.hid (no_yet (by kernel_rfl)), Lib.hid (no_yet (by kernel_rfl)), Lib.hid (no_yet (by kernel_rfl)), Lib.hid (no_yet (by kernel_rfl)), Lib.hid (no_yet (by kernel_rfl))⟩
      case a1fr => (simp only [fr, List.foldl_cons, List.foldl_nil, Act.put, List.setIfInBounds_toArray, List.set_cons_zero, List.set_cons_succ]; rfl)
    case a1S =>
      refine Steps.plain (i := 1) (o := ?a1o1) [] ?a1h1 ?a1g1 ?a1d1 ?a1s1 ?a1r1
      case a1h1 => (simp only [List.getElem?_toArray, List.getElem?_cons_succ, List.getElem?_cons_zero]; rfl)
      case a1g1 => rfl
      case a1d1 => kernel_rfl
      case a1s1 =>
        rintro L aa w h0 _ ⟨v40, v43, v44, v45, v46, v47, v48, v49, v50, v51, v52, v53, v54, v55, v56, v8, rfl, hB, hF⟩ K hK
        simp only [fr, List.foldl_cons, List.foldl_nil, Act.put, List.setIfInBounds_toArray, List.set_cons_zero, List.set_cons_succ]
        go_simp
        refine (HR.out _ (TZ.out.call hB)).mono ?_
        rintro e w5 ⟨rfl, rfl⟩
        exact hK _ _ ⟨(Value.int .u64 r), v43, v44, v45, v46, v47, v48, v49, v50, v51, v52, v53, v54, v55, v56, v8, (by (simp only [fr, List.foldl_cons, List.foldl_nil, Act.put, List.setIfInBounds_toArray, List.set_cons_zero, List.set_cons_succ]); try rfl), hB, Lib.hid (fun _ => rfl), hF.2.1, hF.2.2.1, hF.2.2.2.1, hF.2.2.2.2.1, hF.2.2.2.2.2.1, hF.2.2.2.2.2.2.1, hF.2.2.2.2.2.2.2.1, hF.2.2.2.2.2.2.2.2.1, hF.2.2.2.2.2.2.2.2.2.1, hF.2.2.2.2.2.2.2.2.2.2.1, hF.2.2.2.2.2.2.2.2.2.2.2.1, hF.2.2.2.2.2.2.2.2.2.2.2.2.1, hF.2.2.2.2.2.2.2.2.2.2.2.2.2.1, hF.2.2.2.2.2.2.2.2.2.2.2.2.2.2.1, hF.2.2.2.2.2.2.2.2.2.2.2.2.2.2.2⟩
      refine Steps.plain (i := 4) (o := ?a1o4) [] ?a1h4 ?a1g4 ?a1d4 ?a1s4 ?a1r4
      case a1h4 => (simp only [List.getElem?_toArray, List.getElem?_cons_succ, List.getElem?_cons_zero]; rfl)
      case a1g4 => rfl
      case a1d4 => kernel_rfl
      case a1s4 =>
        rintro L aa w h0 _ ⟨v40, v43, v44, v45, v46, v47, v48, v49, v50, v51, v52, v53, v54, v55, v56, v8, rfl, hB, hF⟩ K hK
        simp only [fr, List.foldl_cons, List.foldl_nil, Act.put, List.setIfInBounds_toArray, List.set_cons_zero, List.set_cons_succ]
        have z0 : w.cell? ⟨bx, 0, none⟩ = some (.int .i64 k) := (VXZ.out.call hB).cell 0
        have z1 : w.cell? ⟨bx, 1, none⟩ = some (.int .i64 v) := (VXZ.out.call hB).cell 1
        have z2 : w.cell? ⟨bx, 2, none⟩ = some (.slice A5 q c5) := (VXZ.out.call hB).cell 2
        go_simp
        exact hK _ _ ⟨v40, (Value.agg #[.int .i64 k, .int .i64 v, .slice A5 q c5]), v44, v45, v46, v47, v48, v49, v50, v51, v52, v53, v54, v55, v56, v8, (by (simp only [fr, List.foldl_cons, List.foldl_nil, Act.put, List.setIfInBounds_toArray, List.set_cons_zero, List.set_cons_succ]); try rfl), hB, hF.1, Lib.hid (fun _ => rfl), hF.2.2.1, hF.2.2.2.1, hF.2.2.2.2.1, hF.2.2.2.2.2.1, hF.2.2.2.2.2.2.1, hF.2.2.2.2.2.2.2.1, hF.2.2.2.2.2.2.2.2.1, hF.2.2.2.2.2.2.2.2.2.1, hF.2.2.2.2.2.2.2.2.2.2.1, hF.2.2.2.2.2.2.2.2.2.2.2.1, hF.2.2.2.2.2.2.2.2.2.2.2.2.1, hF.2.2.2.2.2.2.2.2.2.2.2.2.2.1, hF.2.2.2.2.2.2.2.2.2.2.2.2.2.2.1, hF.2.2.2.2.2.2.2.2.2.2.2.2.2.2.2⟩
      refine Steps.plain (i := 5) (o := ?a1o5) [1, 4] ?a1h5 ?a1g5 ?a1d5 ?a1s5 ?a1r5
      case a1h5 => (simp only [List.getElem?_toArray, List.getElem?_cons_succ, List.getElem?_cons_zero]; rfl)
      case a1g5 => rfl
      case a1d5 => kernel_rfl
      case a1s5 =>
        rintro L aa w h0 ⟨e1, e4, _⟩ ⟨v40, v43, v44, v45, v46, v47, v48, v49, v50, v51, v52, v53, v54, v55, v56, v8, rfl, hB, hF⟩ K hK
        obtain rfl := (hF.1).out e1
        obtain rfl := (hF.2.1).out e4
        simp only [fr, List.foldl_cons, List.foldl_nil, Act.put, List.setIfInBounds_toArray, List.set_cons_zero, List.set_cons_succ]
        go_simp
        refine (verify_any r N k v A5 q c5 pf _ (by omega) (rd_step SXZ.out hB)).mono ?_
        rintro e w5 ⟨rfl, hb5⟩
        rw [HV1.out]
        exact hK _ _ ⟨(Value.int .u64 r), (Value.agg #[.int .i64 k, .int .i64 v, .slice A5 q c5]), (Value.bool true), v45, v46, v47, v48, v49, v50, v51, v52, v53, v54, v55, v56, v8, (by (simp only [fr, List.foldl_cons, List.foldl_nil, Act.put, List.setIfInBounds_toArray, List.set_cons_zero, List.set_cons_succ]); try rfl), b_call hB hb5, hF.1, hF.2.1, Lib.hid (fun _ => rfl), hF.2.2.2.1, hF.2.2.2.2.1, hF.2.2.2.2.2.1, hF.2.2.2.2.2.2.1, hF.2.2.2.2.2.2.2.1, hF.2.2.2.2.2.2.2.2.1, hF.2.2.2.2.2.2.2.2.2.1, hF.2.2.2.2.2.2.2.2.2.2.1, hF.2.2.2.2.2.2.2.2.2.2.2.1, hF.2.2.2.2.2.2.2.2.2.2.2.2.1, hF.2.2.2.2.2.2.2.2.2.2.2.2.2.1, hF.2.2.2.2.2.2.2.2.2.2.2.2.2.2.1, hF.2.2.2.2.2.2.2.2.2.2.2.2.2.2.2⟩
      refine Steps.plain (i := 6) (o := ?a1o6) [5] ?a1h6 ?a1g6 ?a1d6 ?a1s6 ?a1r6
      case a1h6 => (simp only [List.getElem?_toArray, List.getElem?_cons_succ, List.getElem?_cons_zero]; rfl)
      case a1g6 => rfl
      case a1d6 => kernel_rfl
      case a1s6 =>
        rintro L aa w h0 ⟨e5, _⟩ ⟨v40, v43, v44, v45, v46, v47, v48, v49, v50, v51, v52, v53, v54, v55, v56, v8, rfl, hB, hF⟩ K hK
        obtain rfl := (hF.2.2.1).out e5
        simp only [fr, List.foldl_cons, List.foldl_nil, Act.put, List.setIfInBounds_toArray, List.set_cons_zero, List.set_cons_succ]
        go_simp
        exact hK _ _ ⟨v40, v43, (Value.bool true), (Value.bool true), v46, v47, v48, v49, v50, v51, v52, v53, v54, v55, v56, v8, (by (simp only [fr, List.foldl_cons, List.foldl_nil, Act.put, List.setIfInBounds_toArray, List.set_cons_zero, List.set_cons_succ]); try rfl), hB, hF.1, hF.2.1, hF.2.2.1, Lib.hid (fun _ => rfl), hF.2.2.2.2.1, hF.2.2.2.2.2.1, hF.2.2.2.2.2.2.1, hF.2.2.2.2.2.2.2.1, hF.2.2.2.2.2.2.2.2.1, hF.2.2.2.2.2.2.2.2.2.1, hF.2.2.2.2.2.2.2.2.2.2.1, hF.2.2.2.2.2.2.2.2.2.2.2.1, hF.2.2.2.2.2.2.2.2.2.2.2.2.1, hF.2.2.2.2.2.2.2.2.2.2.2.2.2.1, hF.2.2.2.2.2.2.2.2.2.2.2.2.2.2.1, hF.2.2.2.2.2.2.2.2.2.2.2.2.2.2.2⟩
      refine Steps.on (i := 7) (o := ?a1o7) [6] ?a1h7 6 true 45 ?a1g7 ?a1t7 ?a1d7 ?a1s7 ?a1r7
      case a1h7 => (simp only [List.getElem?_toArray, List.getElem?_cons_succ, List.getElem?_cons_zero]; rfl)
      case a1g7 => rfl
      case a1d7 => kernel_rfl
      case a1t7 => kernel_rfl
      case a1s7 =>
        rintro L aa w h0 ⟨e6, _⟩ ⟨v40, v43, v44, v45, v46, v47, v48, v49, v50, v51, v52, v53, v54, v55, v56, v8, rfl, hB, hF⟩ K hK
        obtain rfl := (hF.2.2.2.1).out e6
        simp only [fr, List.foldl_cons, List.foldl_nil, Act.put, List.setIfInBounds_toArray, List.set_cons_zero, List.set_cons_succ]
        refine ⟨by rfl, ?_⟩
        go_simp
        exact hK _ _ ⟨v40, v43, v44, (Value.bool true), (Value.pointer (some ⟨g, 0, none⟩)), v47, v48, v49, v50, v51, v52, v53, v54, v55, v56, v8, (by (simp only [fr, List.foldl_cons, List.foldl_nil, Act.put, List.setIfInBounds_toArray, List.set_cons_zero, List.set_cons_succ]); try rfl), hB, hF.1, hF.2.1, hF.2.2.1, hF.2.2.2.1, Lib.hid (fun _ => rfl), hF.2.2.2.2.2.1, hF.2.2.2.2.2.2.1, hF.2.2.2.2.2.2.2.1, hF.2.2.2.2.2.2.2.2.1, hF.2.2.2.2.2.2.2.2.2.1, hF.2.2.2.2.2.2.2.2.2.2.1, hF.2.2.2.2.2.2.2.2.2.2.2.1, hF.2.2.2.2.2.2.2.2.2.2.2.2.1, hF.2.2.2.2.2.2.2.2.2.2.2.2.2.1, hF.2.2.2.2.2.2.2.2.2.2.2.2.2.2.1, hF.2.2.2.2.2.2.2.2.2.2.2.2.2.2.2⟩
      refine Steps.on (i := 8) (o := ?a1o8) [6, 7] ?a1h8 6 true 45 ?a1g8 ?a1t8 ?a1d8 ?a1s8 ?a1r8
      case a1h8 => (simp only [List.getElem?_toArray, List.getElem?_cons_succ, List.getElem?_cons_zero]; rfl)
      case a1g8 => rfl
      case a1d8 => kernel_rfl
      case a1t8 => kernel_rfl
      case a1s8 =>
        rintro L aa w h0 ⟨e6, e7, _⟩ ⟨v40, v43, v44, v45, v46, v47, v48, v49, v50, v51, v52, v53, v54, v55, v56, v8, rfl, hB, hF⟩ K hK
        obtain rfl := (hF.2.2.2.1).out e6
        obtain rfl := (hF.2.2.2.2.1).out e7
        simp only [fr, List.foldl_cons, List.foldl_nil, Act.put, List.setIfInBounds_toArray, List.set_cons_zero, List.set_cons_succ]
        refine ⟨by rfl, ?_⟩
        go_simp
        refine (HR.out _ (TZ.out.call hB)).mono ?_
        rintro e w5 ⟨rfl, rfl⟩
        exact hK _ _ ⟨v40, v43, v44, (Value.bool true), (Value.pointer (some ⟨g, 0, none⟩)), (Value.int .u64 r), v48, v49, v50, v51, v52, v53, v54, v55, v56, v8, (by (simp only [fr, List.foldl_cons, List.foldl_nil, Act.put, List.setIfInBounds_toArray, List.set_cons_zero, List.set_cons_succ]); try rfl), hB, hF.1, hF.2.1, hF.2.2.1, hF.2.2.2.1, hF.2.2.2.2.1, Lib.hid (fun _ => rfl), hF.2.2.2.2.2.2.1, hF.2.2.2.2.2.2.2.1, hF.2.2.2.2.2.2.2.2.1, hF.2.2.2.2.2.2.2.2.2.1, hF.2.2.2.2.2.2.2.2.2.2.1, hF.2.2.2.2.2.2.2.2.2.2.2.1, hF.2.2.2.2.2.2.2.2.2.2.2.2.1, hF.2.2.2.2.2.2.2.2.2.2.2.2.2.1, hF.2.2.2.2.2.2.2.2.2.2.2.2.2.2.1, hF.2.2.2.2.2.2.2.2.2.2.2.2.2.2.2⟩
      refine Steps.on (i := 9) (o := ?a1o9) [6] ?a1h9 6 true 45 ?a1g9 ?a1t9 ?a1d9 ?a1s9 ?a1r9
      case a1h9 => (simp only [List.getElem?_toArray, List.getElem?_cons_succ, List.getElem?_cons_zero]; rfl)
      case a1g9 => rfl
      case a1d9 => kernel_rfl
      case a1t9 => kernel_rfl
      case a1s9 =>
        rintro L aa w h0 ⟨e6, _⟩ ⟨v40, v43, v44, v45, v46, v47, v48, v49, v50, v51, v52, v53, v54, v55, v56, v8, rfl, hB, hF⟩ K hK
        obtain rfl := (hF.2.2.2.1).out e6
        simp only [fr, List.foldl_cons, List.foldl_nil, Act.put, List.setIfInBounds_toArray, List.set_cons_zero, List.set_cons_succ]
        refine ⟨by rfl, ?_⟩
        go_simp
        exact hK _ _ ⟨v40, v43, v44, (Value.bool true), v46, v47, (Value.slice A1 N c1), v49, v50, v51, v52, v53, v54, v55, v56, v8, (by (simp only [fr, List.foldl_cons, List.foldl_nil, Act.put, List.setIfInBounds_toArray, List.set_cons_zero, List.set_cons_succ]); try rfl), hB, hF.1, hF.2.1, hF.2.2.1, hF.2.2.2.1, hF.2.2.2.2.1, hF.2.2.2.2.2.1, Lib.hid (fun _ => rfl), hF.2.2.2.2.2.2.2.1, hF.2.2.2.2.2.2.2.2.1, hF.2.2.2.2.2.2.2.2.2.1, hF.2.2.2.2.2.2.2.2.2.2.1, hF.2.2.2.2.2.2.2.2.2.2.2.1, hF.2.2.2.2.2.2.2.2.2.2.2.2.1, hF.2.2.2.2.2.2.2.2.2.2.2.2.2.1, hF.2.2.2.2.2.2.2.2.2.2.2.2.2.2.1, hF.2.2.2.2.2.2.2.2.2.2.2.2.2.2.2⟩
      refine Steps.on (i := 10) (o := ?a1o10) [6, 9] ?a1h10 6 true 45 ?a1g10 ?a1t10 ?a1d10 ?a1s10 ?a1r10
      case a1h10 => (simp only [List.getElem?_toArray, List.getElem?_cons_succ, List.getElem?_cons_zero]; rfl)
      case a1g10 => rfl
      case a1d10 => kernel_rfl
      case a1t10 => kernel_rfl
      case a1s10 =>
        rintro L aa w h0 ⟨e6, e9, _⟩ ⟨v40, v43, v44, v45, v46, v47, v48, v49, v50, v51, v52, v53, v54, v55, v56, v8, rfl, hB, hF⟩ K hK
        obtain rfl := (hF.2.2.2.1).out e6
        obtain rfl := (hF.2.2.2.2.2.2.1).out e9
        simp only [fr, List.foldl_cons, List.foldl_nil, Act.put, List.setIfInBounds_toArray, List.set_cons_zero, List.set_cons_succ]
        refine ⟨by rfl, ?_⟩
        go_simp
        exact hK _ _ ⟨v40, v43, v44, (Value.bool true), v46, v47, (Value.slice A1 N c1), (Value.int .i64 N), v50, v51, v52, v53, v54, v55, v56, v8, (by (simp only [fr, List.foldl_cons, List.foldl_nil, Act.put, List.setIfInBounds_toArray, List.set_cons_zero, List.set_cons_succ]); try rfl), hB, hF.1, hF.2.1, hF.2.2.1, hF.2.2.2.1, hF.2.2.2.2.1, hF.2.2.2.2.2.1, hF.2.2.2.2.2.2.1, Lib.hid (fun _ => rfl), hF.2.2.2.2.2.2.2.2.1, hF.2.2.2.2.2.2.2.2.2.1, hF.2.2.2.2.2.2.2.2.2.2.1, hF.2.2.2.2.2.2.2.2.2.2.2.1, hF.2.2.2.2.2.2.2.2.2.2.2.2.1, hF.2.2.2.2.2.2.2.2.2.2.2.2.2.1, hF.2.2.2.2.2.2.2.2.2.2.2.2.2.2.1, hF.2.2.2.2.2.2.2.2.2.2.2.2.2.2.2⟩
      refine Steps.on (i := 11) (o := ?a1o11) [6] ?a1h11 6 true 45 ?a1g11 ?a1t11 ?a1d11 ?a1s11 ?a1r11
      case a1h11 => (simp only [List.getElem?_toArray, List.getElem?_cons_succ, List.getElem?_cons_zero]; rfl)
      case a1g11 => rfl
      case a1d11 => kernel_rfl
      case a1t11 => kernel_rfl
      case a1s11 =>
        rintro L aa w h0 ⟨e6, _⟩ ⟨v40, v43, v44, v45, v46, v47, v48, v49, v50, v51, v52, v53, v54, v55, v56, v8, rfl, hB, hF⟩ K hK
        obtain rfl := (hF.2.2.2.1).out e6
        simp only [fr, List.foldl_cons, List.foldl_nil, Act.put, List.setIfInBounds_toArray, List.set_cons_zero, List.set_cons_succ]
        refine ⟨by rfl, ?_⟩
        have z0 : w.cell? ⟨hb, 0, none⟩ = some (.int .i64 y1) := (VY.out.call hB).cell 0
        have z1 : w.cell? ⟨hb, 1, none⟩ = some (.int .i64 y2) := (VY.out.call hB).cell 1
        have z2 : w.cell? ⟨hb, 2, none⟩ = some (.slice A6 y3.length c6) := (VY.out.call hB).cell 2
        go_simp
        exact hK _ _ ⟨v40, v43, v44, (Value.bool true), v46, v47, v48, v49, (Value.agg #[.int .i64 y1, .int .i64 y2, .slice A6 y3.length c6]), v51, v52, v53, v54, v55, v56, v8, (by (simp only [fr, List.foldl_cons, List.foldl_nil, Act.put, List.setIfInBounds_toArray, List.set_cons_zero, List.set_cons_succ]); try rfl), hB, hF.1, hF.2.1, hF.2.2.1, hF.2.2.2.1, hF.2.2.2.2.1, hF.2.2.2.2.2.1, hF.2.2.2.2.2.2.1, hF.2.2.2.2.2.2.2.1, Lib.hid (fun _ => rfl), hF.2.2.2.2.2.2.2.2.2.1, hF.2.2.2.2.2.2.2.2.2.2.1, hF.2.2.2.2.2.2.2.2.2.2.2.1, hF.2.2.2.2.2.2.2.2.2.2.2.2.1, hF.2.2.2.2.2.2.2.2.2.2.2.2.2.1, hF.2.2.2.2.2.2.2.2.2.2.2.2.2.2.1, hF.2.2.2.2.2.2.2.2.2.2.2.2.2.2.2⟩
      refine Steps.on (i := 12) (o := ?a1o12) [6, 8, 10, 11] ?a1h12 6 true 45 ?a1g12 ?a1t12 ?a1d12 ?a1s12 ?a1r12
      case a1h12 => (simp only [List.getElem?_toArray, List.getElem?_cons_succ, List.getElem?_cons_zero]; rfl)
      case a1g12 => rfl
      case a1d12 => kernel_rfl
      case a1t12 => kernel_rfl
      case a1s12 =>
        rintro L aa w h0 ⟨e6, e8, e10, e11, _⟩ ⟨v40, v43, v44, v45, v46, v47, v48, v49, v50, v51, v52, v53, v54, v55, v56, v8, rfl, hB, hF⟩ K hK
        obtain rfl := (hF.2.2.2.1).out e6
        obtain rfl := (hF.2.2.2.2.2.1).out e8
        obtain rfl := (hF.2.2.2.2.2.2.2.1).out e10
        obtain rfl := (hF.2.2.2.2.2.2.2.2.1).out e11
        simp only [fr, List.foldl_cons, List.foldl_nil, Act.put, List.setIfInBounds_toArray, List.set_cons_zero, List.set_cons_succ]
        refine ⟨by rfl, ?_⟩
        go_simp
        refine (verify_any r N y1 y2 A6 y3.length c6 y3 _ (by omega) (rd_step SY.out hB)).mono ?_
        rintro e w5 ⟨rfl, hb5⟩
        rw [HV2.out]
        exact hK _ _ ⟨v40, v43, v44, (Value.bool true), v46, (Value.int .u64 r), v48, (Value.int .i64 N), (Value.agg #[.int .i64 y1, .int .i64 y2, .slice A6 y3.length c6]), (Value.bool false), v52, v53, v54, v55, v56, v8, (by (simp only [fr, List.foldl_cons, List.foldl_nil, Act.put, List.setIfInBounds_toArray, List.set_cons_zero, List.set_cons_succ]); try rfl), b_call hB hb5, hF.1, hF.2.1, hF.2.2.1, hF.2.2.2.1, hF.2.2.2.2.1, hF.2.2.2.2.2.1, hF.2.2.2.2.2.2.1, hF.2.2.2.2.2.2.2.1, hF.2.2.2.2.2.2.2.2.1, Lib.hid (fun _ => rfl), hF.2.2.2.2.2.2.2.2.2.2.1, hF.2.2.2.2.2.2.2.2.2.2.2.1, hF.2.2.2.2.2.2.2.2.2.2.2.2.1, hF.2.2.2.2.2.2.2.2.2.2.2.2.2.1, hF.2.2.2.2.2.2.2.2.2.2.2.2.2.2.1, hF.2.2.2.2.2.2.2.2.2.2.2.2.2.2.2⟩
      refine Steps.on (i := 13) (o := ?a1o13) [6, 12] ?a1h13 6 true 45 ?a1g13 ?a1t13 ?a1d13 ?a1s13 ?a1r13
      case a1h13 => (simp only [List.getElem?_toArray, List.getElem?_cons_succ, List.getElem?_cons_zero]; rfl)
      case a1g13 => rfl
      case a1d13 => kernel_rfl
      case a1t13 => kernel_rfl
      case a1s13 =>
        rintro L aa w h0 ⟨e6, e12, _⟩ ⟨v40, v43, v44, v45, v46, v47, v48, v49, v50, v51, v52, v53, v54, v55, v56, v8, rfl, hB, hF⟩ K hK
        obtain rfl := (hF.2.2.2.1).out e6
        obtain rfl := (hF.2.2.2.2.2.2.2.2.2.1).out e12
        simp only [fr, List.foldl_cons, List.foldl_nil, Act.put, List.setIfInBounds_toArray, List.set_cons_zero, List.set_cons_succ]
        refine ⟨by rfl, ?_⟩
        go_simp
        exact hK _ _ ⟨v40, v43, v44, (Value.bool true), v46, v47, v48, v49, v50, (Value.bool false), (Value.bool true), v53, v54, v55, v56, v8, (by (simp only [fr, List.foldl_cons, List.foldl_nil, Act.put, List.setIfInBounds_toArray, List.set_cons_zero, List.set_cons_succ]); try rfl), hB, hF.1, hF.2.1, hF.2.2.1, hF.2.2.2.1, hF.2.2.2.2.1, hF.2.2.2.2.2.1, hF.2.2.2.2.2.2.1, hF.2.2.2.2.2.2.2.1, hF.2.2.2.2.2.2.2.2.1, hF.2.2.2.2.2.2.2.2.2.1, Lib.hid (fun _ => rfl), hF.2.2.2.2.2.2.2.2.2.2.2.1, hF.2.2.2.2.2.2.2.2.2.2.2.2.1, hF.2.2.2.2.2.2.2.2.2.2.2.2.2.1, hF.2.2.2.2.2.2.2.2.2.2.2.2.2.2.1, hF.2.2.2.2.2.2.2.2.2.2.2.2.2.2.2⟩
      refine Steps.plain (i := 14) (o := ?a1o14) [6, 13] ?a1h14 ?a1g14 ?a1d14 ?a1s14 ?a1r14
      case a1h14 => (simp only [List.getElem?_toArray, List.getElem?_cons_succ, List.getElem?_cons_zero]; rfl)
      case a1g14 => rfl
      case a1d14 => kernel_rfl
      case a1s14 =>
        rintro L aa w h0 ⟨e6, e13, _⟩ ⟨v40, v43, v44, v45, v46, v47, v48, v49, v50, v51, v52, v53, v54, v55, v56, v8, rfl, hB, hF⟩ K hK
        obtain rfl := (hF.2.2.2.1).out e6
        obtain rfl := (hF.2.2.2.2.2.2.2.2.2.2.1).out e13
        simp only [fr, List.foldl_cons, List.foldl_nil, Act.put, List.setIfInBounds_toArray, List.set_cons_zero, List.set_cons_succ]
        go_simp
        exact hK _ _ ⟨v40, v43, v44, (Value.bool true), v46, v47, v48, v49, v50, v51, (Value.bool true), (Value.bool true), v54, v55, v56, v8, (by (simp only [fr, List.foldl_cons, List.foldl_nil, Act.put, List.setIfInBounds_toArray, List.set_cons_zero, List.set_cons_succ]); try rfl), hB, hF.1, hF.2.1, hF.2.2.1, hF.2.2.2.1, hF.2.2.2.2.1, hF.2.2.2.2.2.1, hF.2.2.2.2.2.2.1, hF.2.2.2.2.2.2.2.1, hF.2.2.2.2.2.2.2.2.1, hF.2.2.2.2.2.2.2.2.2.1, hF.2.2.2.2.2.2.2.2.2.2.1, Lib.hid (fun _ => rfl), hF.2.2.2.2.2.2.2.2.2.2.2.2.1, hF.2.2.2.2.2.2.2.2.2.2.2.2.2.1, hF.2.2.2.2.2.2.2.2.2.2.2.2.2.2.1, hF.2.2.2.2.2.2.2.2.2.2.2.2.2.2.2⟩
      refine Steps.plain (i := 15) (o := ?a1o15) [14] ?a1h15 ?a1g15 ?a1d15 ?a1s15 ?a1r15
      case a1h15 => (simp only [List.getElem?_toArray, List.getElem?_cons_succ, List.getElem?_cons_zero]; rfl)
      case a1g15 => rfl
      case a1d15 => kernel_rfl
      case a1s15 =>
        rintro L aa w h0 ⟨e14, _⟩ ⟨v40, v43, v44, v45, v46, v47, v48, v49, v50, v51, v52, v53, v54, v55, v56, v8, rfl, hB, hF⟩ K hK
        obtain rfl := (hF.2.2.2.2.2.2.2.2.2.2.2.1).out e14
        simp only [fr, List.foldl_cons, List.foldl_nil, Act.put, List.setIfInBounds_toArray, List.set_cons_zero, List.set_cons_succ]
        go_simp
        exact hK _ _ ⟨v40, v43, v44, v45, v46, v47, v48, v49, v50, v51, v52, (Value.bool true), (Value.bool true), v55, v56, v8, (by (simp only [fr, List.foldl_cons, List.foldl_nil, Act.put, List.setIfInBounds_toArray, List.set_cons_zero, List.set_cons_succ]); try rfl), hB, hF.1, hF.2.1, hF.2.2.1, hF.2.2.2.1, hF.2.2.2.2.1, hF.2.2.2.2.2.1, hF.2.2.2.2.2.2.1, hF.2.2.2.2.2.2.2.1, hF.2.2.2.2.2.2.2.2.1, hF.2.2.2.2.2.2.2.2.2.1, hF.2.2.2.2.2.2.2.2.2.2.1, hF.2.2.2.2.2.2.2.2.2.2.2.1, Lib.hid (fun _ => rfl), hF.2.2.2.2.2.2.2.2.2.2.2.2.2.1, hF.2.2.2.2.2.2.2.2.2.2.2.2.2.2.1, hF.2.2.2.2.2.2.2.2.2.2.2.2.2.2.2⟩
      refine Steps.on (i := 16) (o := ?a1o16) [15] ?a1h16 15 true 54 ?a1g16 ?a1t16 ?a1d16 ?a1s16 ?a1r16
      case a1h16 => (simp only [List.getElem?_toArray, List.getElem?_cons_succ, List.getElem?_cons_zero]; rfl)
      case a1g16 => rfl
      case a1d16 => kernel_rfl
      case a1t16 => kernel_rfl
      case a1s16 =>
        rintro L aa w h0 ⟨e15, _⟩ ⟨v40, v43, v44, v45, v46, v47, v48, v49, v50, v51, v52, v53, v54, v55, v56, v8, rfl, hB, hF⟩ K hK
        obtain rfl := (hF.2.2.2.2.2.2.2.2.2.2.2.2.1).out e15
        simp only [fr, List.foldl_cons, List.foldl_nil, Act.put, List.setIfInBounds_toArray, List.set_cons_zero, List.set_cons_succ]
        refine ⟨by rfl, ?_⟩
        go_simp
        refine (lives_any _).mono ?_
        rintro e w5 ⟨rfl, hb5⟩
        exact hK _ _ ⟨v40, v43, v44, v45, v46, v47, v48, v49, v50, v51, v52, v53, (Value.bool true), (Value.bool true), v56, v8, (by (simp only [fr, List.foldl_cons, List.foldl_nil, Act.put, List.setIfInBounds_toArray, List.set_cons_zero, List.set_cons_succ]); try rfl), b_call hB hb5, hF.1, hF.2.1, hF.2.2.1, hF.2.2.2.1, hF.2.2.2.2.1, hF.2.2.2.2.2.1, hF.2.2.2.2.2.2.1, hF.2.2.2.2.2.2.2.1, hF.2.2.2.2.2.2.2.2.1, hF.2.2.2.2.2.2.2.2.2.1, hF.2.2.2.2.2.2.2.2.2.2.1, hF.2.2.2.2.2.2.2.2.2.2.2.1, hF.2.2.2.2.2.2.2.2.2.2.2.2.1, Lib.hid (fun _ => rfl), hF.2.2.2.2.2.2.2.2.2.2.2.2.2.2.1, hF.2.2.2.2.2.2.2.2.2.2.2.2.2.2.2⟩
      refine Steps.plain (i := 17) (o := ?a1o17) [15, 16] ?a1h17 ?a1g17 ?a1d17 ?a1s17 ?a1r17
      case a1h17 => (simp only [List.getElem?_toArray, List.getElem?_cons_succ, List.getElem?_cons_zero]; rfl)
      case a1g17 => rfl
      case a1d17 => kernel_rfl
      case a1s17 =>
        rintro L aa w h0 ⟨e15, e16, _⟩ ⟨v40, v43, v44, v45, v46, v47, v48, v49, v50, v51, v52, v53, v54, v55, v56, v8, rfl, hB, hF⟩ K hK
        obtain rfl := (hF.2.2.2.2.2.2.2.2.2.2.2.2.1).out e15
        obtain rfl := (hF.2.2.2.2.2.2.2.2.2.2.2.2.2.1).out e16
        simp only [fr, List.foldl_cons, List.foldl_nil, Act.put, List.setIfInBounds_toArray, List.set_cons_zero, List.set_cons_succ]
        go_simp
        exact hK _ _ ⟨v40, v43, v44, v45, v46, v47, v48, v49, v50, v51, v52, v53, (Value.bool true), (Value.bool true), (Value.bool true), v8, (by (simp only [fr, List.foldl_cons, List.foldl_nil, Act.put, List.setIfInBounds_toArray, List.set_cons_zero, List.set_cons_succ]); try rfl), hB, hF.1, hF.2.1, hF.2.2.1, hF.2.2.2.1, hF.2.2.2.2.1, hF.2.2.2.2.2.1, hF.2.2.2.2.2.2.1, hF.2.2.2.2.2.2.2.1, hF.2.2.2.2.2.2.2.2.1, hF.2.2.2.2.2.2.2.2.2.1, hF.2.2.2.2.2.2.2.2.2.2.1, hF.2.2.2.2.2.2.2.2.2.2.2.1, hF.2.2.2.2.2.2.2.2.2.2.2.2.1, hF.2.2.2.2.2.2.2.2.2.2.2.2.2.1, Lib.hid (fun _ => rfl), hF.2.2.2.2.2.2.2.2.2.2.2.2.2.2.2⟩
      refine Steps.plain (i := 18) (o := ?a1o18) [17] ?a1h18 ?a1g18 ?a1d18 ?a1s18 ?a1r18
      case a1h18 => (simp only [List.getElem?_toArray, List.getElem?_cons_succ, List.getElem?_cons_zero]; rfl)
      case a1g18 => rfl
      case a1d18 => kernel_rfl
      case a1s18 =>
        rintro L aa w h0 ⟨e17, _⟩ ⟨v40, v43, v44, v45, v46, v47, v48, v49, v50, v51, v52, v53, v54, v55, v56, v8, rfl, hB, hF⟩ K hK
        obtain rfl := (hF.2.2.2.2.2.2.2.2.2.2.2.2.2.2.1).out e17
        simp only [fr, List.foldl_cons, List.foldl_nil, Act.put, List.setIfInBounds_toArray, List.set_cons_zero, List.set_cons_succ]
        go_simp
        exact hK _ _ ⟨v40, v43, v44, v45, v46, v47, v48, v49, v50, v51, v52, v53, v54, v55, (Value.bool true), (Value.bool true), (by (simp only [fr, List.foldl_cons, List.foldl_nil, Act.put, List.setIfInBounds_toArray, List.set_cons_zero, List.set_cons_succ]); try rfl), hB, hF.1, hF.2.1, hF.2.2.1, hF.2.2.2.1, hF.2.2.2.2.1, hF.2.2.2.2.2.1, hF.2.2.2.2.2.2.1, hF.2.2.2.2.2.2.2.1, hF.2.2.2.2.2.2.2.2.1, hF.2.2.2.2.2.2.2.2.2.1, hF.2.2.2.2.2.2.2.2.2.2.1, hF.2.2.2.2.2.2.2.2.2.2.2.1, hF.2.2.2.2.2.2.2.2.2.2.2.2.1, hF.2.2.2.2.2.2.2.2.2.2.2.2.2.1, hF.2.2.2.2.2.2.2.2.2.2.2.2.2.2.1, Lib.hid (fun _ => rfl)⟩
      exact Steps.nil
    case a1D =>
      rintro L aa w hL ⟨v40, v43, v44, v45, v46, v47, v48, v49, v50, v51, v52, v53, v54, v55, v56, v8, rfl, hB, hF⟩
      obtain rfl := (hF.1).out (hL 1 (by decide))
      obtain rfl := (hF.2.1).out (hL 4 (by decide))
      obtain rfl := (hF.2.2.1).out (hL 5 (by decide))
      obtain rfl := (hF.2.2.2.1).out (hL 6 (by decide))
      obtain rfl := (hF.2.2.2.2.1).out (hL 7 (by decide))
      obtain rfl := (hF.2.2.2.2.2.1).out (hL 8 (by decide))
      obtain rfl := (hF.2.2.2.2.2.2.1).out (hL 9 (by decide))
      obtain rfl := (hF.2.2.2.2.2.2.2.1).out (hL 10 (by decide))
      obtain rfl := (hF.2.2.2.2.2.2.2.2.1).out (hL 11 (by decide))
      obtain rfl := (hF.2.2.2.2.2.2.2.2.2.1).out (hL 12 (by decide))
      obtain rfl := (hF.2.2.2.2.2.2.2.2.2.2.1).out (hL 13 (by decide))
      obtain rfl := (hF.2.2.2.2.2.2.2.2.2.2.2.1).out (hL 14 (by decide))
      obtain rfl := (hF.2.2.2.2.2.2.2.2.2.2.2.2.1).out (hL 15 (by decide))
      obtain rfl := (hF.2.2.2.2.2.2.2.2.2.2.2.2.2.1).out (hL 16 (by decide))
      obtain rfl := (hF.2.2.2.2.2.2.2.2.2.2.2.2.2.2.1).out (hL 17 (by decide))
      obtain rfl := (hF.2.2.2.2.2.2.2.2.2.2.2.2.2.2.2).out (hL 18 (by decide))
      have l1 := hL 1 (by decide)
      have l4 := hL 4 (by decide)
      have l5 := hL 5 (by decide)
      have l6 := hL 6 (by decide)
      have l7 := hL 7 (by decide)
      have l8 := hL 8 (by decide)
      have l9 := hL 9 (by decide)
      have l10 := hL 10 (by decide)
      have l11 := hL 11 (by decide)
      have l12 := hL 12 (by decide)
      have l13 := hL 13 (by decide)
      have l14 := hL 14 (by decide)
      have l15 := hL 15 (by decide)
      have l16 := hL 16 (by decide)
      have l17 := hL 17 (by decide)
      have l18 := hL 18 (by decide)
      clear hL
      simp only [fr, List.foldl_cons, List.foldl_nil, Act.put, List.setIfInBounds_toArray, List.set_cons_zero, List.set_cons_succ]
      go_wp2
      go_ret
      exact ⟨rfl, b_call HBZ.out hB⟩
end Go.Proofs.Ytgelhcgaacnjcaa
