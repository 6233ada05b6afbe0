/-
  WHAT IS PROVED HERE: the walk of the law MerkleComplete. No condition but what comes in lies in memory.
-/
import Derived.Test.YtgelhcgaacnjcaaMkR
namespace Go.Proofs.Ytgelhcgaacnjcaa
set_option linter.unusedVariables false
open Go.ChangeShapes Go.WideShapes Go.ChangeAt Go.RowKit

set_option maxRecDepth 100000 in
set_option maxHeartbeats 4000000 in
theorem complete_walk (A : Option Addr) (n c : Nat) (l : List Int) (at_ by_ : Int) (W : World) (rd : Rd W W.heap.size 1 A n (l.map (Value.int .i64))) (hn : n ≤ c) (hc : c ≤ maxLen) (ha : I64 at_) :
    Calls Try.prog 6 #[.slice A n c, .int .i64 at_, .int .i64 by_] W fun e w' => e = .returned (.bool true) ∧ Below W.heap.size W w' := by
  have hll : l.length = n := by have := rd.1; simpa using this
  have HL := Lib.hid (take20 hll)
  have RD := Lib.hid rd
  have HN := Lib.hid hn
  have HC := Lib.hid hc
  have HAT := Lib.hid ha
  clear rd hn hc hll ha
  go_enter Try.func6, Try.ntmps6
  go_wp2_with fail
  refine (cells_any A n c l _ RD.out HN.out HC.out).mono ?_
  rintro e w1 ⟨A1, c1, rfl, _, _, o1, hb1⟩
  obtain ⟨N, hN⟩ : ∃ N, min n 20 = N := ⟨_, rfl⟩
  obtain ⟨cs0, hcs⟩ : ∃ cs, l.take 20 = cs := ⟨_, rfl⟩
  have hN20 : N ≤ 20 := by rw [← hN]; exact Nat.min_le_right _ _
  rw [hN, hcs] at o1 HL
  rw [hN]
  have R1 := Lib.hid (rd_own o1)
  have HB1 := Lib.hid hb1
  clear o1 hN hcs hb1
  go_wp2_with fail
  refine (new_any A1 N c1 cs0 _ R1.out (by omega)).mono ?_
  rintro e w2 ⟨g, bc, bn, f0, rfl, T, n2, hb2⟩
  have T2 := Lib.hid T
  have HB2 := Lib.hid (b_call HB1.out hb2)
  have HF := Lib.hid (show ∀ k, TF g bc bn k → W.heap.size ≤ k from fun k hk => Nat.le_trans HB1.out.size (n2 k hk))
  clear T hb2 n2 RD R1
  obtain ⟨q, hq⟩ : ∃ q, hgt N = q := ⟨_, rfl⟩
  have HQ := Lib.hid hq
  have HH := Lib.hid (fun w => rheight_any N w (by omega))
  rw [hq] at HH
  clear hq
  go_wp2
  go_loopw [9] (fun s wr => ∃ (r : Nat) (cs : List Int) (f : Nat → Int), r ≤ 2 ∧ s = .int .i64 r ∧ Hid (Tr wr g bc bn cs f) ∧ Hid (cs.length = N) ∧ Hid (Below W.heap.size W wr)) (fun s _ => 2 - (intOf s).toNat)
  case atStart => exact ⟨0, cs0, f0, by omega, rfl, T2, HL, HB2⟩
  case round =>
    obtain ⟨r, cs, f, hr, rfl, HT, HCL, HBr⟩ := hrel
    clear T2 HB2 HL
    by_cases hlt : r < 2
    · have d1 : decide ((r : Int) < 2) = true := by simp; omega
      obtain ⟨wo, rfl⟩ : ∃ wo : World, wo = wr := ⟨_, rfl⟩
      go_wp2
      go_loopw [10] (fun s wr => ∃ k : Nat, k ≤ N ∧ s = .int .i64 k ∧ Hid (Tr wr g bc bn cs f) ∧ Hid (Below W.heap.size W wr)) (fun s _ => N - (intOf s).toNat)
      case atStart => exact ⟨0, by omega, rfl, HT, HBr⟩
      case round =>
        clear HT HBr
        obtain ⟨k, hk, rfl, HT, HBr⟩ := hrel
        by_cases hlt2 : k < N
        · have e1 : decide ((k : Int) < (N : Int)) = true := by simp; omega
          have e2 : decide (k < N) = true := by simp; omega
          have hkl : k < cs.length := by rw [HCL.out]; exact hlt2
          go_wp2_with fail
          refine (prove_yes g bc bn cs f k _ HT.out hkl).mono ?_
          rintro e w3 ⟨A5, c5, rfl, o5, _, _, hb5⟩
          have S5 := Lib.hid (rd_own o5)
          have T3 := Lib.hid (HT.out.call hb5)
          have HB3 := Lib.hid (b_call HBr.out hb5)
          have HV1 := Lib.hid (verB_prf cs k hkl)
          have HR := Lib.hid (fun (w : World) (H : Tr w g bc bn cs f) => troot_any H)
          obtain ⟨v, hv⟩ : ∃ v, cs[k] = v := ⟨_, rfl⟩
          rw [HCL.out, HQ.out, hv] at HV1
          rw [HCL.out, HQ.out] at S5 HR
          rw [HCL.out, HQ.out]
          obtain ⟨pf, hpf⟩ : ∃ pf, prfV cs k (List.range q) = pf := ⟨_, rfl⟩
          have hpl : pf.length = q := by rw [← hpf, prfV_len, List.length_range]
          rw [hpf] at S5 HV1
          obtain ⟨rt, hrt⟩ : ∃ r, nV cs q 0 = r := ⟨_, rfl⟩
          rw [hrt] at HV1 HR
          rw [hpl] at S5
          rw [hpf, hpl, hv]
          clear o5 hb5 hv hpf hpl hrt hkl
          go_wp2
          refine name_world ?_
          intro X hX
          obtain ⟨bx, hbx⟩ : ∃ x, w3.heap.size = x := ⟨_, rfl⟩
          have hbX : Below w3.heap.size w3 X := by rw [hX]; (repeat (first | (with_reducible exact Below.refl _ _) | (with_reducible assumption) | (with_reducible refine b_drew ?_) | (with_reducible refine b_drewN ?_ _) | (with_reducible refine b_alloc ?_ _) | ((with_reducible refine b_set ?_ ?_ _); rotate_left; (focus (first | omega | (simp; done) | (simp; omega) | (simp at *; omega)))) | (with_reducible refine b_call ?_ (by with_reducible assumption))))
          have VX := Lib.hid (show Vr X bx 25 #[.int .i64 k, .int .i64 v, .slice A5 q c5] from by rw [hX, ← hbx]; exact Vr.new w3 _ _)
          have TX := Lib.hid (T3.out.call hbX)
          have HBX := Lib.hid (b_call HB3.out hbX)
          have SX := Lib.hid (rd_step S5.out hbX)
          rw [hbx]
          clear hX hbx hbX S5 T3 HT HBr HB3
          have b1 : ((q : Int) != (q : Int)) = false := bne_self_eq_false _
          have b2 : ((k : Int) != (k : Int)) = false := bne_self_eq_false _
          refine wp_region_any (by kernel_rfl) ?_
          change wpAny _ _ _ _ _ _ _ (World.drew _)
          refine take_at (i := 0) (some 31) (v := ?vg2) rfl rfl (by kernel_rfl) (by kernel_rfl) (by kernel_rfl) (fun _ _ _ h => h) (Or.inl ⟨by rfl, ?hg2⟩) ?rg2
          case hg2 => (intro w0; go_simp; try with_reducible rfl)
          simp only [Act.put, List.setIfInBounds_toArray, List.set_cons_zero, List.set_cons_succ]
          refine take_at (i := 2) (some 33) (v := ?vg3) rfl rfl (by kernel_rfl) (by kernel_rfl) (by kernel_rfl) (fun _ _ _ h => h) (Or.inl ⟨by rfl, ?hg3⟩) ?rg3
          case hg3 => (intro w0; go_simp; try with_reducible rfl)
          simp only [Act.put, List.setIfInBounds_toArray, List.set_cons_zero, List.set_cons_succ]
          refine take_at (i := 3) (some 34) (v := ?vg4) rfl rfl (by kernel_rfl) (by kernel_rfl) (by kernel_rfl) (fun _ _ _ h => h) (Or.inl ⟨by rfl, ?hg4⟩) ?rg4
          case hg4 => (intro w0; go_simp; try with_reducible rfl)
          simp only [Act.put, List.setIfInBounds_toArray, List.set_cons_zero, List.set_cons_succ]
          refine wpAny_go (fun A0 L aa w => ∃ (v32 v35 v36 v37 v38 v39 v40 v41 v42 v43 v44 v45 v46 v47 v48 v49 v50 v51 v52 : Value), aa = fr A0 [(32, v32), (35, v35), (36, v36), (37, v37), (38, v38), (39, v39), (40, v40), (41, v41), (42, v42), (43, v43), (44, v44), (45, v45), (46, v46), (47, v47), (48, v48), (49, v49), (50, v50), (51, v51), (52, v52)] ∧ (Below X.heap.size X w) ∧ Hid (L 1 = true → v32 = Value.int .u64 rt) ∧ Hid (L 4 = true → v35 = Value.agg #[.int .i64 k, .int .i64 v, .slice A5 q c5]) ∧ Hid (L 5 = true → v36 = Value.bool true) ∧ Hid (L 6 = true → v37 = Value.bool false) ∧ Hid (L 7 = true → v38 = Value.bool false) ∧ Hid (L 8 = true → v39 = Value.pointer (some ⟨bx, 2, none⟩)) ∧ Hid (L 9 = true → v40 = Value.slice A5 q c5) ∧ Hid (L 10 = true → v41 = Value.int .i64 q) ∧ Hid (L 11 = true → v42 = Value.slice A1 N c1) ∧ Hid (L 12 = true → v43 = Value.int .i64 N) ∧ Hid (L 13 = true → v44 = Value.int .i64 q) ∧ Hid (L 14 = true → v45 = Value.bool false) ∧ Hid (L 15 = true → v46 = Value.bool false) ∧ Hid (L 16 = true → v47 = Value.bool false) ∧ Hid (L 17 = true → v48 = Value.pointer (some ⟨bx, 0, none⟩)) ∧ Hid (L 18 = true → v49 = Value.int .i64 k) ∧ Hid (L 19 = true → v50 = Value.int .i64 k) ∧ Hid (L 20 = true → v51 = Value.bool false) ∧ Hid (L 21 = true → v52 = Value.bool false)) [1, 4, 5, 6, 7, 8, 9, 10, 11, 12, 13, 14, 15, 16, 17, 18, 19, 20, 21] (by kernel_rfl) (by kernel_rfl) ?a1I ?a1S ?a1D
          case a1I =>
            refine ⟨?a1v32, ?a1v35, ?a1v36, ?a1v37, ?a1v38, ?a1v39, ?a1v40, ?a1v41, ?a1v42, ?a1v43, ?a1v44, ?a1v45, ?a1v46, ?a1v47, ?a1v48, ?a1v49, ?a1v50, ?a1v51, ?a1v52, ?a1fr, b_drew (Below.refl _ _), Lib.hid (no_yet (by kernel_rfl)), Lib.hid (no_yet (by kernel_rfl)), Lib.hid (no_yet (by kernel_rfl)), Lib.hid (no_yet (by kernel_rfl)), Lib.hid (no_yet (by kernel_rfl)), Lib.hid (no_yet (by kernel_rfl)), Lib.hid (no_yet (by kernel_rfl)), Lib.hid (no_yet (by kernel_rfl)), Lib.hid (no_yet (by kernel_rfl)), Lib.hid (no_yet (by kernel_rfl)), Lib.hid (no_yet (by kernel_rfl)), Lib.hid (no_yet (by kernel_rfl)), Lib.hid (no_yet (by kernel_rfl)), Lib.hid (no_yet (by kernel_rfl)), Lib.hid (no_yet (by kernel_rfl)), Lib.hid (no_yet (by kernel_rfl)), Lib.hid (no_yet (by kernel_rfl)), Lib.hid (no_yet (by kernel_rfl)), Lib.hid (no_yet (by kernel_rfl))⟩
            case a1fr => (simp only [fr, List.foldl_cons, List.foldl_nil, Act.put, List.setIfInBounds_toArray, List.set_cons_zero, List.set_cons_succ]; rfl)
          case a1S =>
            refine Steps.plain (i := 1) (o := ?a1o1) [] ?a1h1 ?a1g1 ?a1d1 ?a1s1 ?a1r1
            case a1h1 => (simp only [List.getElem?_toArray, List.getElem?_cons_succ, List.getElem?_cons_zero]; rfl)
            case a1g1 => rfl
            case a1d1 => kernel_rfl
            case a1s1 =>
              rintro L aa w h0 _ ⟨v32, v35, v36, v37, v38, v39, v40, v41, v42, v43, v44, v45, v46, v47, v48, v49, v50, v51, v52, rfl, hB, hF⟩ K hK
              simp only [fr, List.foldl_cons, List.foldl_nil, Act.put, List.setIfInBounds_toArray, List.set_cons_zero, List.set_cons_succ]
              go_simp
              refine (HR.out _ (TX.out.call hB)).mono ?_
              rintro e w5 ⟨rfl, rfl⟩
              exact hK _ _ ⟨(Value.int .u64 rt), v35, v36, v37, v38, v39, v40, v41, v42, v43, v44, v45, v46, v47, v48, v49, v50, v51, v52, (by (simp only [fr, List.foldl_cons, List.foldl_nil, Act.put, List.setIfInBounds_toArray, List.set_cons_zero, List.set_cons_succ]); try rfl), hB, Lib.hid (fun _ => rfl), hF.2.1, hF.2.2.1, hF.2.2.2.1, hF.2.2.2.2.1, hF.2.2.2.2.2.1, hF.2.2.2.2.2.2.1, hF.2.2.2.2.2.2.2.1, hF.2.2.2.2.2.2.2.2.1, hF.2.2.2.2.2.2.2.2.2.1, hF.2.2.2.2.2.2.2.2.2.2.1, hF.2.2.2.2.2.2.2.2.2.2.2.1, hF.2.2.2.2.2.2.2.2.2.2.2.2.1, hF.2.2.2.2.2.2.2.2.2.2.2.2.2.1, hF.2.2.2.2.2.2.2.2.2.2.2.2.2.2.1, hF.2.2.2.2.2.2.2.2.2.2.2.2.2.2.2.1, hF.2.2.2.2.2.2.2.2.2.2.2.2.2.2.2.2.1, hF.2.2.2.2.2.2.2.2.2.2.2.2.2.2.2.2.2.1, hF.2.2.2.2.2.2.2.2.2.2.2.2.2.2.2.2.2.2⟩
            refine Steps.plain (i := 4) (o := ?a1o4) [] ?a1h4 ?a1g4 ?a1d4 ?a1s4 ?a1r4
            case a1h4 => (simp only [List.getElem?_toArray, List.getElem?_cons_succ, List.getElem?_cons_zero]; rfl)
            case a1g4 => rfl
            case a1d4 => kernel_rfl
            case a1s4 =>
              rintro L aa w h0 _ ⟨v32, v35, v36, v37, v38, v39, v40, v41, v42, v43, v44, v45, v46, v47, v48, v49, v50, v51, v52, rfl, hB, hF⟩ K hK
              simp only [fr, List.foldl_cons, List.foldl_nil, Act.put, List.setIfInBounds_toArray, List.set_cons_zero, List.set_cons_succ]
              have z0 : w.cell? ⟨bx, 0, none⟩ = some (.int .i64 k) := (VX.out.call hB).cell 0
              have z1 : w.cell? ⟨bx, 1, none⟩ = some (.int .i64 v) := (VX.out.call hB).cell 1
              have z2 : w.cell? ⟨bx, 2, none⟩ = some (.slice A5 q c5) := (VX.out.call hB).cell 2
              go_simp
              exact hK _ _ ⟨v32, (Value.agg #[.int .i64 k, .int .i64 v, .slice A5 q c5]), v36, v37, v38, v39, v40, v41, v42, v43, v44, v45, v46, v47, v48, v49, v50, v51, v52, (by (simp only [fr, List.foldl_cons, List.foldl_nil, Act.put, List.setIfInBounds_toArray, List.set_cons_zero, List.set_cons_succ]); try rfl), hB, hF.1, Lib.hid (fun _ => rfl), hF.2.2.1, hF.2.2.2.1, hF.2.2.2.2.1, hF.2.2.2.2.2.1, hF.2.2.2.2.2.2.1, hF.2.2.2.2.2.2.2.1, hF.2.2.2.2.2.2.2.2.1, hF.2.2.2.2.2.2.2.2.2.1, hF.2.2.2.2.2.2.2.2.2.2.1, hF.2.2.2.2.2.2.2.2.2.2.2.1, hF.2.2.2.2.2.2.2.2.2.2.2.2.1, hF.2.2.2.2.2.2.2.2.2.2.2.2.2.1, hF.2.2.2.2.2.2.2.2.2.2.2.2.2.2.1, hF.2.2.2.2.2.2.2.2.2.2.2.2.2.2.2.1, hF.2.2.2.2.2.2.2.2.2.2.2.2.2.2.2.2.1, hF.2.2.2.2.2.2.2.2.2.2.2.2.2.2.2.2.2.1, hF.2.2.2.2.2.2.2.2.2.2.2.2.2.2.2.2.2.2⟩
            refine Steps.plain (i := 5) (o := ?a1o5) [1, 4] ?a1h5 ?a1g5 ?a1d5 ?a1s5 ?a1r5
            case a1h5 => (simp only [List.getElem?_toArray, List.getElem?_cons_succ, List.getElem?_cons_zero]; rfl)
            case a1g5 => rfl
            case a1d5 => kernel_rfl
            case a1s5 =>
              rintro L aa w h0 ⟨e1, e4, _⟩ ⟨v32, v35, v36, v37, v38, v39, v40, v41, v42, v43, v44, v45, v46, v47, v48, v49, v50, v51, v52, rfl, hB, hF⟩ K hK
              obtain rfl := (hF.1).out e1
              obtain rfl := (hF.2.1).out e4
              simp only [fr, List.foldl_cons, List.foldl_nil, Act.put, List.setIfInBounds_toArray, List.set_cons_zero, List.set_cons_succ]
              go_simp
              refine (verify_any rt N k v A5 q c5 pf _ (by omega) (rd_step SX.out hB)).mono ?_
              rintro e w5 ⟨rfl, hb5⟩
              rw [HV1.out]
              exact hK _ _ ⟨(Value.int .u64 rt), (Value.agg #[.int .i64 k, .int .i64 v, .slice A5 q c5]), (Value.bool true), v37, v38, v39, v40, v41, v42, v43, v44, v45, v46, v47, v48, v49, v50, v51, v52, (by (simp only [fr, List.foldl_cons, List.foldl_nil, Act.put, List.setIfInBounds_toArray, List.set_cons_zero, List.set_cons_succ]); try rfl), b_call hB hb5, hF.1, hF.2.1, Lib.hid (fun _ => rfl), hF.2.2.2.1, hF.2.2.2.2.1, hF.2.2.2.2.2.1, hF.2.2.2.2.2.2.1, hF.2.2.2.2.2.2.2.1, hF.2.2.2.2.2.2.2.2.1, hF.2.2.2.2.2.2.2.2.2.1, hF.2.2.2.2.2.2.2.2.2.2.1, hF.2.2.2.2.2.2.2.2.2.2.2.1, hF.2.2.2.2.2.2.2.2.2.2.2.2.1, hF.2.2.2.2.2.2.2.2.2.2.2.2.2.1, hF.2.2.2.2.2.2.2.2.2.2.2.2.2.2.1, hF.2.2.2.2.2.2.2.2.2.2.2.2.2.2.2.1, hF.2.2.2.2.2.2.2.2.2.2.2.2.2.2.2.2.1, hF.2.2.2.2.2.2.2.2.2.2.2.2.2.2.2.2.2.1, hF.2.2.2.2.2.2.2.2.2.2.2.2.2.2.2.2.2.2⟩
            refine Steps.plain (i := 6) (o := ?a1o6) [5] ?a1h6 ?a1g6 ?a1d6 ?a1s6 ?a1r6
            case a1h6 => (simp only [List.getElem?_toArray, List.getElem?_cons_succ, List.getElem?_cons_zero]; rfl)
            case a1g6 => rfl
            case a1d6 => kernel_rfl
            case a1s6 =>
              rintro L aa w h0 ⟨e5, _⟩ ⟨v32, v35, v36, v37, v38, v39, v40, v41, v42, v43, v44, v45, v46, v47, v48, v49, v50, v51, v52, rfl, hB, hF⟩ K hK
              obtain rfl := (hF.2.2.1).out e5
              simp only [fr, List.foldl_cons, List.foldl_nil, Act.put, List.setIfInBounds_toArray, List.set_cons_zero, List.set_cons_succ]
              go_simp
              exact hK _ _ ⟨v32, v35, (Value.bool true), (Value.bool false), v38, v39, v40, v41, v42, v43, v44, v45, v46, v47, v48, v49, v50, v51, v52, (by (simp only [fr, List.foldl_cons, List.foldl_nil, Act.put, List.setIfInBounds_toArray, List.set_cons_zero, List.set_cons_succ]); try rfl), hB, hF.1, hF.2.1, hF.2.2.1, Lib.hid (fun _ => rfl), hF.2.2.2.2.1, hF.2.2.2.2.2.1, hF.2.2.2.2.2.2.1, hF.2.2.2.2.2.2.2.1, hF.2.2.2.2.2.2.2.2.1, hF.2.2.2.2.2.2.2.2.2.1, hF.2.2.2.2.2.2.2.2.2.2.1, hF.2.2.2.2.2.2.2.2.2.2.2.1, hF.2.2.2.2.2.2.2.2.2.2.2.2.1, hF.2.2.2.2.2.2.2.2.2.2.2.2.2.1, hF.2.2.2.2.2.2.2.2.2.2.2.2.2.2.1, hF.2.2.2.2.2.2.2.2.2.2.2.2.2.2.2.1, hF.2.2.2.2.2.2.2.2.2.2.2.2.2.2.2.2.1, hF.2.2.2.2.2.2.2.2.2.2.2.2.2.2.2.2.2.1, hF.2.2.2.2.2.2.2.2.2.2.2.2.2.2.2.2.2.2⟩
            refine Steps.plain (i := 7) (o := ?a1o7) [6] ?a1h7 ?a1g7 ?a1d7 ?a1s7 ?a1r7
            case a1h7 => (simp only [List.getElem?_toArray, List.getElem?_cons_succ, List.getElem?_cons_zero]; rfl)
            case a1g7 => rfl
            case a1d7 => kernel_rfl
            case a1s7 =>
              rintro L aa w h0 ⟨e6, _⟩ ⟨v32, v35, v36, v37, v38, v39, v40, v41, v42, v43, v44, v45, v46, v47, v48, v49, v50, v51, v52, rfl, hB, hF⟩ K hK
              obtain rfl := (hF.2.2.2.1).out e6
              simp only [fr, List.foldl_cons, List.foldl_nil, Act.put, List.setIfInBounds_toArray, List.set_cons_zero, List.set_cons_succ]
              go_simp
              exact hK _ _ ⟨v32, v35, v36, (Value.bool false), (Value.bool false), v39, v40, v41, v42, v43, v44, v45, v46, v47, v48, v49, v50, v51, v52, (by (simp only [fr, List.foldl_cons, List.foldl_nil, Act.put, List.setIfInBounds_toArray, List.set_cons_zero, List.set_cons_succ]); try rfl), hB, hF.1, hF.2.1, hF.2.2.1, hF.2.2.2.1, Lib.hid (fun _ => rfl), hF.2.2.2.2.2.1, hF.2.2.2.2.2.2.1, hF.2.2.2.2.2.2.2.1, hF.2.2.2.2.2.2.2.2.1, hF.2.2.2.2.2.2.2.2.2.1, hF.2.2.2.2.2.2.2.2.2.2.1, hF.2.2.2.2.2.2.2.2.2.2.2.1, hF.2.2.2.2.2.2.2.2.2.2.2.2.1, hF.2.2.2.2.2.2.2.2.2.2.2.2.2.1, hF.2.2.2.2.2.2.2.2.2.2.2.2.2.2.1, hF.2.2.2.2.2.2.2.2.2.2.2.2.2.2.2.1, hF.2.2.2.2.2.2.2.2.2.2.2.2.2.2.2.2.1, hF.2.2.2.2.2.2.2.2.2.2.2.2.2.2.2.2.2.1, hF.2.2.2.2.2.2.2.2.2.2.2.2.2.2.2.2.2.2⟩
            refine Steps.on (i := 8) (o := ?a1o8) [7] ?a1h8 7 false 38 ?a1g8 ?a1t8 ?a1d8 ?a1s8 ?a1r8
            case a1h8 => (simp only [List.getElem?_toArray, List.getElem?_cons_succ, List.getElem?_cons_zero]; rfl)
            case a1g8 => rfl
            case a1d8 => kernel_rfl
            case a1t8 => kernel_rfl
            case a1s8 =>
              rintro L aa w h0 ⟨e7, _⟩ ⟨v32, v35, v36, v37, v38, v39, v40, v41, v42, v43, v44, v45, v46, v47, v48, v49, v50, v51, v52, rfl, hB, hF⟩ K hK
              obtain rfl := (hF.2.2.2.2.1).out e7
              simp only [fr, List.foldl_cons, List.foldl_nil, Act.put, List.setIfInBounds_toArray, List.set_cons_zero, List.set_cons_succ]
              refine ⟨by rfl, ?_⟩
              go_simp
              exact hK _ _ ⟨v32, v35, v36, v37, (Value.bool false), (Value.pointer (some ⟨bx, 2, none⟩)), v40, v41, v42, v43, v44, v45, v46, v47, v48, v49, v50, v51, v52, (by (simp only [fr, List.foldl_cons, List.foldl_nil, Act.put, List.setIfInBounds_toArray, List.set_cons_zero, List.set_cons_succ]); try rfl), hB, hF.1, hF.2.1, hF.2.2.1, hF.2.2.2.1, hF.2.2.2.2.1, Lib.hid (fun _ => rfl), hF.2.2.2.2.2.2.1, hF.2.2.2.2.2.2.2.1, hF.2.2.2.2.2.2.2.2.1, hF.2.2.2.2.2.2.2.2.2.1, hF.2.2.2.2.2.2.2.2.2.2.1, hF.2.2.2.2.2.2.2.2.2.2.2.1, hF.2.2.2.2.2.2.2.2.2.2.2.2.1, hF.2.2.2.2.2.2.2.2.2.2.2.2.2.1, hF.2.2.2.2.2.2.2.2.2.2.2.2.2.2.1, hF.2.2.2.2.2.2.2.2.2.2.2.2.2.2.2.1, hF.2.2.2.2.2.2.2.2.2.2.2.2.2.2.2.2.1, hF.2.2.2.2.2.2.2.2.2.2.2.2.2.2.2.2.2.1, hF.2.2.2.2.2.2.2.2.2.2.2.2.2.2.2.2.2.2⟩
            refine Steps.on (i := 9) (o := ?a1o9) [7, 8] ?a1h9 7 false 38 ?a1g9 ?a1t9 ?a1d9 ?a1s9 ?a1r9
            case a1h9 => (simp only [List.getElem?_toArray, List.getElem?_cons_succ, List.getElem?_cons_zero]; rfl)
            case a1g9 => rfl
            case a1d9 => kernel_rfl
            case a1t9 => kernel_rfl
            case a1s9 =>
              rintro L aa w h0 ⟨e7, e8, _⟩ ⟨v32, v35, v36, v37, v38, v39, v40, v41, v42, v43, v44, v45, v46, v47, v48, v49, v50, v51, v52, rfl, hB, hF⟩ K hK
              obtain rfl := (hF.2.2.2.2.1).out e7
              obtain rfl := (hF.2.2.2.2.2.1).out e8
              simp only [fr, List.foldl_cons, List.foldl_nil, Act.put, List.setIfInBounds_toArray, List.set_cons_zero, List.set_cons_succ]
              refine ⟨by rfl, ?_⟩
              have z2 : w.cell? ⟨bx, 2, none⟩ = some (.slice A5 q c5) := (VX.out.call hB).cell 2
              go_simp
              exact hK _ _ ⟨v32, v35, v36, v37, (Value.bool false), (Value.pointer (some ⟨bx, 2, none⟩)), (Value.slice A5 q c5), v41, v42, v43, v44, v45, v46, v47, v48, v49, v50, v51, v52, (by (simp only [fr, List.foldl_cons, List.foldl_nil, Act.put, List.setIfInBounds_toArray, List.set_cons_zero, List.set_cons_succ]); try rfl), hB, hF.1, hF.2.1, hF.2.2.1, hF.2.2.2.1, hF.2.2.2.2.1, hF.2.2.2.2.2.1, Lib.hid (fun _ => rfl), hF.2.2.2.2.2.2.2.1, hF.2.2.2.2.2.2.2.2.1, hF.2.2.2.2.2.2.2.2.2.1, hF.2.2.2.2.2.2.2.2.2.2.1, hF.2.2.2.2.2.2.2.2.2.2.2.1, hF.2.2.2.2.2.2.2.2.2.2.2.2.1, hF.2.2.2.2.2.2.2.2.2.2.2.2.2.1, hF.2.2.2.2.2.2.2.2.2.2.2.2.2.2.1, hF.2.2.2.2.2.2.2.2.2.2.2.2.2.2.2.1, hF.2.2.2.2.2.2.2.2.2.2.2.2.2.2.2.2.1, hF.2.2.2.2.2.2.2.2.2.2.2.2.2.2.2.2.2.1, hF.2.2.2.2.2.2.2.2.2.2.2.2.2.2.2.2.2.2⟩
            refine Steps.on (i := 10) (o := ?a1o10) [7, 9] ?a1h10 7 false 38 ?a1g10 ?a1t10 ?a1d10 ?a1s10 ?a1r10
            case a1h10 => (simp only [List.getElem?_toArray, List.getElem?_cons_succ, List.getElem?_cons_zero]; rfl)
            case a1g10 => rfl
            case a1d10 => kernel_rfl
            case a1t10 => kernel_rfl
            case a1s10 =>
              rintro L aa w h0 ⟨e7, e9, _⟩ ⟨v32, v35, v36, v37, v38, v39, v40, v41, v42, v43, v44, v45, v46, v47, v48, v49, v50, v51, v52, rfl, hB, hF⟩ K hK
              obtain rfl := (hF.2.2.2.2.1).out e7
              obtain rfl := (hF.2.2.2.2.2.2.1).out e9
              simp only [fr, List.foldl_cons, List.foldl_nil, Act.put, List.setIfInBounds_toArray, List.set_cons_zero, List.set_cons_succ]
              refine ⟨by rfl, ?_⟩
              go_simp
              exact hK _ _ ⟨v32, v35, v36, v37, (Value.bool false), v39, (Value.slice A5 q c5), (Value.int .i64 q), v42, v43, v44, v45, v46, v47, v48, v49, v50, v51, v52, (by (simp only [fr, List.foldl_cons, List.foldl_nil, Act.put, List.setIfInBounds_toArray, List.set_cons_zero, List.set_cons_succ]); try rfl), hB, hF.1, hF.2.1, hF.2.2.1, hF.2.2.2.1, hF.2.2.2.2.1, hF.2.2.2.2.2.1, hF.2.2.2.2.2.2.1, Lib.hid (fun _ => rfl), hF.2.2.2.2.2.2.2.2.1, hF.2.2.2.2.2.2.2.2.2.1, hF.2.2.2.2.2.2.2.2.2.2.1, hF.2.2.2.2.2.2.2.2.2.2.2.1, hF.2.2.2.2.2.2.2.2.2.2.2.2.1, hF.2.2.2.2.2.2.2.2.2.2.2.2.2.1, hF.2.2.2.2.2.2.2.2.2.2.2.2.2.2.1, hF.2.2.2.2.2.2.2.2.2.2.2.2.2.2.2.1, hF.2.2.2.2.2.2.2.2.2.2.2.2.2.2.2.2.1, hF.2.2.2.2.2.2.2.2.2.2.2.2.2.2.2.2.2.1, hF.2.2.2.2.2.2.2.2.2.2.2.2.2.2.2.2.2.2⟩
            refine Steps.on (i := 11) (o := ?a1o11) [7] ?a1h11 7 false 38 ?a1g11 ?a1t11 ?a1d11 ?a1s11 ?a1r11
            case a1h11 => (simp only [List.getElem?_toArray, List.getElem?_cons_succ, List.getElem?_cons_zero]; rfl)
            case a1g11 => rfl
            case a1d11 => kernel_rfl
            case a1t11 => kernel_rfl
            case a1s11 =>
              rintro L aa w h0 ⟨e7, _⟩ ⟨v32, v35, v36, v37, v38, v39, v40, v41, v42, v43, v44, v45, v46, v47, v48, v49, v50, v51, v52, rfl, hB, hF⟩ K hK
              obtain rfl := (hF.2.2.2.2.1).out e7
              simp only [fr, List.foldl_cons, List.foldl_nil, Act.put, List.setIfInBounds_toArray, List.set_cons_zero, List.set_cons_succ]
              refine ⟨by rfl, ?_⟩
              go_simp
              exact hK _ _ ⟨v32, v35, v36, v37, (Value.bool false), v39, v40, v41, (Value.slice A1 N c1), v43, v44, v45, v46, v47, v48, v49, v50, v51, v52, (by (simp only [fr, List.foldl_cons, List.foldl_nil, Act.put, List.setIfInBounds_toArray, List.set_cons_zero, List.set_cons_succ]); try rfl), hB, hF.1, hF.2.1, hF.2.2.1, hF.2.2.2.1, hF.2.2.2.2.1, hF.2.2.2.2.2.1, hF.2.2.2.2.2.2.1, hF.2.2.2.2.2.2.2.1, Lib.hid (fun _ => rfl), hF.2.2.2.2.2.2.2.2.2.1, hF.2.2.2.2.2.2.2.2.2.2.1, hF.2.2.2.2.2.2.2.2.2.2.2.1, hF.2.2.2.2.2.2.2.2.2.2.2.2.1, hF.2.2.2.2.2.2.2.2.2.2.2.2.2.1, hF.2.2.2.2.2.2.2.2.2.2.2.2.2.2.1, hF.2.2.2.2.2.2.2.2.2.2.2.2.2.2.2.1, hF.2.2.2.2.2.2.2.2.2.2.2.2.2.2.2.2.1, hF.2.2.2.2.2.2.2.2.2.2.2.2.2.2.2.2.2.1, hF.2.2.2.2.2.2.2.2.2.2.2.2.2.2.2.2.2.2⟩
            refine Steps.on (i := 12) (o := ?a1o12) [7, 11] ?a1h12 7 false 38 ?a1g12 ?a1t12 ?a1d12 ?a1s12 ?a1r12
            case a1h12 => (simp only [List.getElem?_toArray, List.getElem?_cons_succ, List.getElem?_cons_zero]; rfl)
            case a1g12 => rfl
            case a1d12 => kernel_rfl
            case a1t12 => kernel_rfl
            case a1s12 =>
              rintro L aa w h0 ⟨e7, e11, _⟩ ⟨v32, v35, v36, v37, v38, v39, v40, v41, v42, v43, v44, v45, v46, v47, v48, v49, v50, v51, v52, rfl, hB, hF⟩ K hK
              obtain rfl := (hF.2.2.2.2.1).out e7
              obtain rfl := (hF.2.2.2.2.2.2.2.2.1).out e11
              simp only [fr, List.foldl_cons, List.foldl_nil, Act.put, List.setIfInBounds_toArray, List.set_cons_zero, List.set_cons_succ]
              refine ⟨by rfl, ?_⟩
              go_simp
              exact hK _ _ ⟨v32, v35, v36, v37, (Value.bool false), v39, v40, v41, (Value.slice A1 N c1), (Value.int .i64 N), v44, v45, v46, v47, v48, v49, v50, v51, v52, (by (simp only [fr, List.foldl_cons, List.foldl_nil, Act.put, List.setIfInBounds_toArray, List.set_cons_zero, List.set_cons_succ]); try rfl), hB, hF.1, hF.2.1, hF.2.2.1, hF.2.2.2.1, hF.2.2.2.2.1, hF.2.2.2.2.2.1, hF.2.2.2.2.2.2.1, hF.2.2.2.2.2.2.2.1, hF.2.2.2.2.2.2.2.2.1, Lib.hid (fun _ => rfl), hF.2.2.2.2.2.2.2.2.2.2.1, hF.2.2.2.2.2.2.2.2.2.2.2.1, hF.2.2.2.2.2.2.2.2.2.2.2.2.1, hF.2.2.2.2.2.2.2.2.2.2.2.2.2.1, hF.2.2.2.2.2.2.2.2.2.2.2.2.2.2.1, hF.2.2.2.2.2.2.2.2.2.2.2.2.2.2.2.1, hF.2.2.2.2.2.2.2.2.2.2.2.2.2.2.2.2.1, hF.2.2.2.2.2.2.2.2.2.2.2.2.2.2.2.2.2.1, hF.2.2.2.2.2.2.2.2.2.2.2.2.2.2.2.2.2.2⟩
            refine Steps.on (i := 13) (o := ?a1o13) [7, 12] ?a1h13 7 false 38 ?a1g13 ?a1t13 ?a1d13 ?a1s13 ?a1r13
            case a1h13 => (simp only [List.getElem?_toArray, List.getElem?_cons_succ, List.getElem?_cons_zero]; rfl)
            case a1g13 => rfl
            case a1d13 => kernel_rfl
            case a1t13 => kernel_rfl
            case a1s13 =>
              rintro L aa w h0 ⟨e7, e12, _⟩ ⟨v32, v35, v36, v37, v38, v39, v40, v41, v42, v43, v44, v45, v46, v47, v48, v49, v50, v51, v52, rfl, hB, hF⟩ K hK
              obtain rfl := (hF.2.2.2.2.1).out e7
              obtain rfl := (hF.2.2.2.2.2.2.2.2.2.1).out e12
              simp only [fr, List.foldl_cons, List.foldl_nil, Act.put, List.setIfInBounds_toArray, List.set_cons_zero, List.set_cons_succ]
              refine ⟨by rfl, ?_⟩
              go_simp
              refine (HH.out _).mono ?_
              rintro e w5 ⟨rfl, rfl⟩
              exact hK _ _ ⟨v32, v35, v36, v37, (Value.bool false), v39, v40, v41, v42, (Value.int .i64 N), (Value.int .i64 q), v45, v46, v47, v48, v49, v50, v51, v52, (by (simp only [fr, List.foldl_cons, List.foldl_nil, Act.put, List.setIfInBounds_toArray, List.set_cons_zero, List.set_cons_succ]); try rfl), hB, hF.1, hF.2.1, hF.2.2.1, hF.2.2.2.1, hF.2.2.2.2.1, hF.2.2.2.2.2.1, hF.2.2.2.2.2.2.1, hF.2.2.2.2.2.2.2.1, hF.2.2.2.2.2.2.2.2.1, hF.2.2.2.2.2.2.2.2.2.1, Lib.hid (fun _ => rfl), hF.2.2.2.2.2.2.2.2.2.2.2.1, hF.2.2.2.2.2.2.2.2.2.2.2.2.1, hF.2.2.2.2.2.2.2.2.2.2.2.2.2.1, hF.2.2.2.2.2.2.2.2.2.2.2.2.2.2.1, hF.2.2.2.2.2.2.2.2.2.2.2.2.2.2.2.1, hF.2.2.2.2.2.2.2.2.2.2.2.2.2.2.2.2.1, hF.2.2.2.2.2.2.2.2.2.2.2.2.2.2.2.2.2.1, hF.2.2.2.2.2.2.2.2.2.2.2.2.2.2.2.2.2.2⟩
            refine Steps.on (i := 14) (o := ?a1o14) [7, 10, 13] ?a1h14 7 false 38 ?a1g14 ?a1t14 ?a1d14 ?a1s14 ?a1r14
            case a1h14 => (simp only [List.getElem?_toArray, List.getElem?_cons_succ, List.getElem?_cons_zero]; rfl)
            case a1g14 => rfl
            case a1d14 => kernel_rfl
            case a1t14 => kernel_rfl
            case a1s14 =>
              rintro L aa w h0 ⟨e7, e10, e13, _⟩ ⟨v32, v35, v36, v37, v38, v39, v40, v41, v42, v43, v44, v45, v46, v47, v48, v49, v50, v51, v52, rfl, hB, hF⟩ K hK
              obtain rfl := (hF.2.2.2.2.1).out e7
              obtain rfl := (hF.2.2.2.2.2.2.2.1).out e10
              obtain rfl := (hF.2.2.2.2.2.2.2.2.2.2.1).out e13
              simp only [fr, List.foldl_cons, List.foldl_nil, Act.put, List.setIfInBounds_toArray, List.set_cons_zero, List.set_cons_succ]
              refine ⟨by rfl, ?_⟩
              go_simp
              exact hK _ _ ⟨v32, v35, v36, v37, (Value.bool false), v39, v40, (Value.int .i64 q), v42, v43, (Value.int .i64 q), (Value.bool false), v46, v47, v48, v49, v50, v51, v52, (by (simp only [fr, List.foldl_cons, List.foldl_nil, Act.put, List.setIfInBounds_toArray, List.set_cons_zero, List.set_cons_succ]); try rfl), hB, hF.1, hF.2.1, hF.2.2.1, hF.2.2.2.1, hF.2.2.2.2.1, hF.2.2.2.2.2.1, hF.2.2.2.2.2.2.1, hF.2.2.2.2.2.2.2.1, hF.2.2.2.2.2.2.2.2.1, hF.2.2.2.2.2.2.2.2.2.1, hF.2.2.2.2.2.2.2.2.2.2.1, Lib.hid (fun _ => rfl), hF.2.2.2.2.2.2.2.2.2.2.2.2.1, hF.2.2.2.2.2.2.2.2.2.2.2.2.2.1, hF.2.2.2.2.2.2.2.2.2.2.2.2.2.2.1, hF.2.2.2.2.2.2.2.2.2.2.2.2.2.2.2.1, hF.2.2.2.2.2.2.2.2.2.2.2.2.2.2.2.2.1, hF.2.2.2.2.2.2.2.2.2.2.2.2.2.2.2.2.2.1, hF.2.2.2.2.2.2.2.2.2.2.2.2.2.2.2.2.2.2⟩
            refine Steps.plain (i := 15) (o := ?a1o15) [7, 14] ?a1h15 ?a1g15 ?a1d15 ?a1s15 ?a1r15
            case a1h15 => (simp only [List.getElem?_toArray, List.getElem?_cons_succ, List.getElem?_cons_zero]; rfl)
            case a1g15 => rfl
            case a1d15 => kernel_rfl
            case a1s15 =>
              rintro L aa w h0 ⟨e7, e14, _⟩ ⟨v32, v35, v36, v37, v38, v39, v40, v41, v42, v43, v44, v45, v46, v47, v48, v49, v50, v51, v52, rfl, hB, hF⟩ K hK
              obtain rfl := (hF.2.2.2.2.1).out e7
              obtain rfl := (hF.2.2.2.2.2.2.2.2.2.2.2.1).out e14
              simp only [fr, List.foldl_cons, List.foldl_nil, Act.put, List.setIfInBounds_toArray, List.set_cons_zero, List.set_cons_succ]
              go_simp
              exact hK _ _ ⟨v32, v35, v36, v37, (Value.bool false), v39, v40, v41, v42, v43, v44, (Value.bool false), (Value.bool false), v47, v48, v49, v50, v51, v52, (by (simp only [fr, List.foldl_cons, List.foldl_nil, Act.put, List.setIfInBounds_toArray, List.set_cons_zero, List.set_cons_succ]); try rfl), hB, hF.1, hF.2.1, hF.2.2.1, hF.2.2.2.1, hF.2.2.2.2.1, hF.2.2.2.2.2.1, hF.2.2.2.2.2.2.1, hF.2.2.2.2.2.2.2.1, hF.2.2.2.2.2.2.2.2.1, hF.2.2.2.2.2.2.2.2.2.1, hF.2.2.2.2.2.2.2.2.2.2.1, hF.2.2.2.2.2.2.2.2.2.2.2.1, Lib.hid (fun _ => rfl), hF.2.2.2.2.2.2.2.2.2.2.2.2.2.1, hF.2.2.2.2.2.2.2.2.2.2.2.2.2.2.1, hF.2.2.2.2.2.2.2.2.2.2.2.2.2.2.2.1, hF.2.2.2.2.2.2.2.2.2.2.2.2.2.2.2.2.1, hF.2.2.2.2.2.2.2.2.2.2.2.2.2.2.2.2.2.1, hF.2.2.2.2.2.2.2.2.2.2.2.2.2.2.2.2.2.2⟩
            refine Steps.plain (i := 16) (o := ?a1o16) [15] ?a1h16 ?a1g16 ?a1d16 ?a1s16 ?a1r16
            case a1h16 => (simp only [List.getElem?_toArray, List.getElem?_cons_succ, List.getElem?_cons_zero]; rfl)
            case a1g16 => rfl
            case a1d16 => kernel_rfl
            case a1s16 =>
              rintro L aa w h0 ⟨e15, _⟩ ⟨v32, v35, v36, v37, v38, v39, v40, v41, v42, v43, v44, v45, v46, v47, v48, v49, v50, v51, v52, rfl, hB, hF⟩ K hK
              obtain rfl := (hF.2.2.2.2.2.2.2.2.2.2.2.2.1).out e15
              simp only [fr, List.foldl_cons, List.foldl_nil, Act.put, List.setIfInBounds_toArray, List.set_cons_zero, List.set_cons_succ]
              go_simp
              exact hK _ _ ⟨v32, v35, v36, v37, v38, v39, v40, v41, v42, v43, v44, v45, (Value.bool false), (Value.bool false), v48, v49, v50, v51, v52, (by (simp only [fr, List.foldl_cons, List.foldl_nil, Act.put, List.setIfInBounds_toArray, List.set_cons_zero, List.set_cons_succ]); try rfl), hB, hF.1, hF.2.1, hF.2.2.1, hF.2.2.2.1, hF.2.2.2.2.1, hF.2.2.2.2.2.1, hF.2.2.2.2.2.2.1, hF.2.2.2.2.2.2.2.1, hF.2.2.2.2.2.2.2.2.1, hF.2.2.2.2.2.2.2.2.2.1, hF.2.2.2.2.2.2.2.2.2.2.1, hF.2.2.2.2.2.2.2.2.2.2.2.1, hF.2.2.2.2.2.2.2.2.2.2.2.2.1, Lib.hid (fun _ => rfl), hF.2.2.2.2.2.2.2.2.2.2.2.2.2.2.1, hF.2.2.2.2.2.2.2.2.2.2.2.2.2.2.2.1, hF.2.2.2.2.2.2.2.2.2.2.2.2.2.2.2.2.1, hF.2.2.2.2.2.2.2.2.2.2.2.2.2.2.2.2.2.1, hF.2.2.2.2.2.2.2.2.2.2.2.2.2.2.2.2.2.2⟩
            refine Steps.on (i := 17) (o := ?a1o17) [16] ?a1h17 16 false 47 ?a1g17 ?a1t17 ?a1d17 ?a1s17 ?a1r17
            case a1h17 => (simp only [List.getElem?_toArray, List.getElem?_cons_succ, List.getElem?_cons_zero]; rfl)
            case a1g17 => rfl
            case a1d17 => kernel_rfl
            case a1t17 => kernel_rfl
            case a1s17 =>
              rintro L aa w h0 ⟨e16, _⟩ ⟨v32, v35, v36, v37, v38, v39, v40, v41, v42, v43, v44, v45, v46, v47, v48, v49, v50, v51, v52, rfl, hB, hF⟩ K hK
              obtain rfl := (hF.2.2.2.2.2.2.2.2.2.2.2.2.2.1).out e16
              simp only [fr, List.foldl_cons, List.foldl_nil, Act.put, List.setIfInBounds_toArray, List.set_cons_zero, List.set_cons_succ]
              refine ⟨by rfl, ?_⟩
              go_simp
              exact hK _ _ ⟨v32, v35, v36, v37, v38, v39, v40, v41, v42, v43, v44, v45, v46, (Value.bool false), (Value.pointer (some ⟨bx, 0, none⟩)), v49, v50, v51, v52, (by (simp only [fr, List.foldl_cons, List.foldl_nil, Act.put, List.setIfInBounds_toArray, List.set_cons_zero, List.set_cons_succ]); try rfl), hB, hF.1, hF.2.1, hF.2.2.1, hF.2.2.2.1, hF.2.2.2.2.1, hF.2.2.2.2.2.1, hF.2.2.2.2.2.2.1, hF.2.2.2.2.2.2.2.1, hF.2.2.2.2.2.2.2.2.1, hF.2.2.2.2.2.2.2.2.2.1, hF.2.2.2.2.2.2.2.2.2.2.1, hF.2.2.2.2.2.2.2.2.2.2.2.1, hF.2.2.2.2.2.2.2.2.2.2.2.2.1, hF.2.2.2.2.2.2.2.2.2.2.2.2.2.1, Lib.hid (fun _ => rfl), hF.2.2.2.2.2.2.2.2.2.2.2.2.2.2.2.1, hF.2.2.2.2.2.2.2.2.2.2.2.2.2.2.2.2.1, hF.2.2.2.2.2.2.2.2.2.2.2.2.2.2.2.2.2.1, hF.2.2.2.2.2.2.2.2.2.2.2.2.2.2.2.2.2.2⟩
            refine Steps.on (i := 18) (o := ?a1o18) [16, 17] ?a1h18 16 false 47 ?a1g18 ?a1t18 ?a1d18 ?a1s18 ?a1r18
            case a1h18 => (simp only [List.getElem?_toArray, List.getElem?_cons_succ, List.getElem?_cons_zero]; rfl)
            case a1g18 => rfl
            case a1d18 => kernel_rfl
            case a1t18 => kernel_rfl
            case a1s18 =>
              rintro L aa w h0 ⟨e16, e17, _⟩ ⟨v32, v35, v36, v37, v38, v39, v40, v41, v42, v43, v44, v45, v46, v47, v48, v49, v50, v51, v52, rfl, hB, hF⟩ K hK
              obtain rfl := (hF.2.2.2.2.2.2.2.2.2.2.2.2.2.1).out e16
              obtain rfl := (hF.2.2.2.2.2.2.2.2.2.2.2.2.2.2.1).out e17
              simp only [fr, List.foldl_cons, List.foldl_nil, Act.put, List.setIfInBounds_toArray, List.set_cons_zero, List.set_cons_succ]
              refine ⟨by rfl, ?_⟩
              have z0 : w.cell? ⟨bx, 0, none⟩ = some (.int .i64 k) := (VX.out.call hB).cell 0
              go_simp
              exact hK _ _ ⟨v32, v35, v36, v37, v38, v39, v40, v41, v42, v43, v44, v45, v46, (Value.bool false), (Value.pointer (some ⟨bx, 0, none⟩)), (Value.int .i64 k), v50, v51, v52, (by (simp only [fr, List.foldl_cons, List.foldl_nil, Act.put, List.setIfInBounds_toArray, List.set_cons_zero, List.set_cons_succ]); try rfl), hB, hF.1, hF.2.1, hF.2.2.1, hF.2.2.2.1, hF.2.2.2.2.1, hF.2.2.2.2.2.1, hF.2.2.2.2.2.2.1, hF.2.2.2.2.2.2.2.1, hF.2.2.2.2.2.2.2.2.1, hF.2.2.2.2.2.2.2.2.2.1, hF.2.2.2.2.2.2.2.2.2.2.1, hF.2.2.2.2.2.2.2.2.2.2.2.1, hF.2.2.2.2.2.2.2.2.2.2.2.2.1, hF.2.2.2.2.2.2.2.2.2.2.2.2.2.1, hF.2.2.2.2.2.2.2.2.2.2.2.2.2.2.1, Lib.hid (fun _ => rfl), hF.2.2.2.2.2.2.2.2.2.2.2.2.2.2.2.2.1, hF.2.2.2.2.2.2.2.2.2.2.2.2.2.2.2.2.2.1, hF.2.2.2.2.2.2.2.2.2.2.2.2.2.2.2.2.2.2⟩
            refine Steps.on (i := 19) (o := ?a1o19) [16] ?a1h19 16 false 47 ?a1g19 ?a1t19 ?a1d19 ?a1s19 ?a1r19
            case a1h19 => (simp only [List.getElem?_toArray, List.getElem?_cons_succ, List.getElem?_cons_zero]; rfl)
            case a1g19 => rfl
            case a1d19 => kernel_rfl
            case a1t19 => kernel_rfl
            case a1s19 =>
              rintro L aa w h0 ⟨e16, _⟩ ⟨v32, v35, v36, v37, v38, v39, v40, v41, v42, v43, v44, v45, v46, v47, v48, v49, v50, v51, v52, rfl, hB, hF⟩ K hK
              obtain rfl := (hF.2.2.2.2.2.2.2.2.2.2.2.2.2.1).out e16
              simp only [fr, List.foldl_cons, List.foldl_nil, Act.put, List.setIfInBounds_toArray, List.set_cons_zero, List.set_cons_succ]
              refine ⟨by rfl, ?_⟩
              go_simp
              exact hK _ _ ⟨v32, v35, v36, v37, v38, v39, v40, v41, v42, v43, v44, v45, v46, (Value.bool false), v48, v49, (Value.int .i64 k), v51, v52, (by (simp only [fr, List.foldl_cons, List.foldl_nil, Act.put, List.setIfInBounds_toArray, List.set_cons_zero, List.set_cons_succ]); try rfl), hB, hF.1, hF.2.1, hF.2.2.1, hF.2.2.2.1, hF.2.2.2.2.1, hF.2.2.2.2.2.1, hF.2.2.2.2.2.2.1, hF.2.2.2.2.2.2.2.1, hF.2.2.2.2.2.2.2.2.1, hF.2.2.2.2.2.2.2.2.2.1, hF.2.2.2.2.2.2.2.2.2.2.1, hF.2.2.2.2.2.2.2.2.2.2.2.1, hF.2.2.2.2.2.2.2.2.2.2.2.2.1, hF.2.2.2.2.2.2.2.2.2.2.2.2.2.1, hF.2.2.2.2.2.2.2.2.2.2.2.2.2.2.1, hF.2.2.2.2.2.2.2.2.2.2.2.2.2.2.2.1, Lib.hid (fun _ => rfl), hF.2.2.2.2.2.2.2.2.2.2.2.2.2.2.2.2.2.1, hF.2.2.2.2.2.2.2.2.2.2.2.2.2.2.2.2.2.2⟩
            refine Steps.on (i := 20) (o := ?a1o20) [16, 18, 19] ?a1h20 16 false 47 ?a1g20 ?a1t20 ?a1d20 ?a1s20 ?a1r20
            case a1h20 => (simp only [List.getElem?_toArray, List.getElem?_cons_succ, List.getElem?_cons_zero]; rfl)
            case a1g20 => rfl
            case a1d20 => kernel_rfl
            case a1t20 => kernel_rfl
            case a1s20 =>
              rintro L aa w h0 ⟨e16, e18, e19, _⟩ ⟨v32, v35, v36, v37, v38, v39, v40, v41, v42, v43, v44, v45, v46, v47, v48, v49, v50, v51, v52, rfl, hB, hF⟩ K hK
              obtain rfl := (hF.2.2.2.2.2.2.2.2.2.2.2.2.2.1).out e16
              obtain rfl := (hF.2.2.2.2.2.2.2.2.2.2.2.2.2.2.2.1).out e18
              obtain rfl := (hF.2.2.2.2.2.2.2.2.2.2.2.2.2.2.2.2.1).out e19
              simp only [fr, List.foldl_cons, List.foldl_nil, Act.put, List.setIfInBounds_toArray, List.set_cons_zero, List.set_cons_succ]
              refine ⟨by rfl, ?_⟩
              go_simp
              exact hK _ _ ⟨v32, v35, v36, v37, v38, v39, v40, v41, v42, v43, v44, v45, v46, (Value.bool false), v48, (Value.int .i64 k), (Value.int .i64 k), (Value.bool false), v52, (by (simp only [fr, List.foldl_cons, List.foldl_nil, Act.put, List.setIfInBounds_toArray, List.set_cons_zero, List.set_cons_succ]); try rfl), hB, hF.1, hF.2.1, hF.2.2.1, hF.2.2.2.1, hF.2.2.2.2.1, hF.2.2.2.2.2.1, hF.2.2.2.2.2.2.1, hF.2.2.2.2.2.2.2.1, hF.2.2.2.2.2.2.2.2.1, hF.2.2.2.2.2.2.2.2.2.1, hF.2.2.2.2.2.2.2.2.2.2.1, hF.2.2.2.2.2.2.2.2.2.2.2.1, hF.2.2.2.2.2.2.2.2.2.2.2.2.1, hF.2.2.2.2.2.2.2.2.2.2.2.2.2.1, hF.2.2.2.2.2.2.2.2.2.2.2.2.2.2.1, hF.2.2.2.2.2.2.2.2.2.2.2.2.2.2.2.1, hF.2.2.2.2.2.2.2.2.2.2.2.2.2.2.2.2.1, Lib.hid (fun _ => rfl), hF.2.2.2.2.2.2.2.2.2.2.2.2.2.2.2.2.2.2⟩
            refine Steps.plain (i := 21) (o := ?a1o21) [16, 20] ?a1h21 ?a1g21 ?a1d21 ?a1s21 ?a1r21
            case a1h21 => (simp only [List.getElem?_toArray, List.getElem?_cons_succ, List.getElem?_cons_zero]; rfl)
            case a1g21 => rfl
            case a1d21 => kernel_rfl
            case a1s21 =>
              rintro L aa w h0 ⟨e16, e20, _⟩ ⟨v32, v35, v36, v37, v38, v39, v40, v41, v42, v43, v44, v45, v46, v47, v48, v49, v50, v51, v52, rfl, hB, hF⟩ K hK
              obtain rfl := (hF.2.2.2.2.2.2.2.2.2.2.2.2.2.1).out e16
              obtain rfl := (hF.2.2.2.2.2.2.2.2.2.2.2.2.2.2.2.2.2.1).out e20
              simp only [fr, List.foldl_cons, List.foldl_nil, Act.put, List.setIfInBounds_toArray, List.set_cons_zero, List.set_cons_succ]
              go_simp
              exact hK _ _ ⟨v32, v35, v36, v37, v38, v39, v40, v41, v42, v43, v44, v45, v46, (Value.bool false), v48, v49, v50, (Value.bool false), (Value.bool false), (by (simp only [fr, List.foldl_cons, List.foldl_nil, Act.put, List.setIfInBounds_toArray, List.set_cons_zero, List.set_cons_succ]); try rfl), hB, hF.1, hF.2.1, hF.2.2.1, hF.2.2.2.1, hF.2.2.2.2.1, hF.2.2.2.2.2.1, hF.2.2.2.2.2.2.1, hF.2.2.2.2.2.2.2.1, hF.2.2.2.2.2.2.2.2.1, hF.2.2.2.2.2.2.2.2.2.1, hF.2.2.2.2.2.2.2.2.2.2.1, hF.2.2.2.2.2.2.2.2.2.2.2.1, hF.2.2.2.2.2.2.2.2.2.2.2.2.1, hF.2.2.2.2.2.2.2.2.2.2.2.2.2.1, hF.2.2.2.2.2.2.2.2.2.2.2.2.2.2.1, hF.2.2.2.2.2.2.2.2.2.2.2.2.2.2.2.1, hF.2.2.2.2.2.2.2.2.2.2.2.2.2.2.2.2.1, hF.2.2.2.2.2.2.2.2.2.2.2.2.2.2.2.2.2.1, Lib.hid (fun _ => rfl)⟩
            exact Steps.nil
          case a1D =>
            rintro L aa w hL ⟨v32, v35, v36, v37, v38, v39, v40, v41, v42, v43, v44, v45, v46, v47, v48, v49, v50, v51, v52, rfl, hB, hF⟩
            obtain rfl := (hF.1).out (hL 1 (by decide))
            obtain rfl := (hF.2.1).out (hL 4 (by decide))
            obtain rfl := (hF.2.2.1).out (hL 5 (by decide))
            obtain rfl := (hF.2.2.2.1).out (hL 6 (by decide))
            obtain rfl := (hF.2.2.2.2.1).out (hL 7 (by decide))
            obtain rfl := (hF.2.2.2.2.2.1).out (hL 8 (by decide))
            obtain rfl := (hF.2.2.2.2.2.2.1).out (hL 9 (by decide))
            obtain rfl := (hF.2.2.2.2.2.2.2.1).out (hL 10 (by decide))
            obtain rfl := (hF.2.2.2.2.2.2.2.2.1).out (hL 11 (by decide))
            obtain rfl := (hF.2.2.2.2.2.2.2.2.2.1).out (hL 12 (by decide))
            obtain rfl := (hF.2.2.2.2.2.2.2.2.2.2.1).out (hL 13 (by decide))
            obtain rfl := (hF.2.2.2.2.2.2.2.2.2.2.2.1).out (hL 14 (by decide))
            obtain rfl := (hF.2.2.2.2.2.2.2.2.2.2.2.2.1).out (hL 15 (by decide))
            obtain rfl := (hF.2.2.2.2.2.2.2.2.2.2.2.2.2.1).out (hL 16 (by decide))
            obtain rfl := (hF.2.2.2.2.2.2.2.2.2.2.2.2.2.2.1).out (hL 17 (by decide))
            obtain rfl := (hF.2.2.2.2.2.2.2.2.2.2.2.2.2.2.2.1).out (hL 18 (by decide))
            obtain rfl := (hF.2.2.2.2.2.2.2.2.2.2.2.2.2.2.2.2.1).out (hL 19 (by decide))
            obtain rfl := (hF.2.2.2.2.2.2.2.2.2.2.2.2.2.2.2.2.2.1).out (hL 20 (by decide))
            obtain rfl := (hF.2.2.2.2.2.2.2.2.2.2.2.2.2.2.2.2.2.2).out (hL 21 (by decide))
            have l1 := hL 1 (by decide)
            have l4 := hL 4 (by decide)
            have l5 := hL 5 (by decide)
            have l6 := hL 6 (by decide)
            have l7 := hL 7 (by decide)
            have l8 := hL 8 (by decide)
            have l9 := hL 9 (by decide)
            have l10 := hL 10 (by decide)
            have l11 := hL 11 (by decide)
            have l12 := hL 12 (by decide)
            have l13 := hL 13 (by decide)
            have l14 := hL 14 (by decide)
            have l15 := hL 15 (by decide)
            have l16 := hL 16 (by decide)
            have l17 := hL 17 (by decide)
            have l18 := hL 18 (by decide)
            have l19 := hL 19 (by decide)
            have l20 := hL 20 (by decide)
            have l21 := hL 21 (by decide)
            clear hL
            simp only [fr, List.foldl_cons, List.foldl_nil, Act.put, List.setIfInBounds_toArray, List.set_cons_zero, List.set_cons_succ]
            have TZ := Lib.hid (Lib.hid (TX.out.call hB))
            have BZ := Lib.hid (Lib.hid (b_call HBX.out hB))
            clear hB TX HBX l1 l4 l5 l6 l7 l8 l9 l10 l11 l12 l13 l14 l15 l16 l17 l18 l19 l20 l21
            go_wp2
            go_roundw
            case rel => first | exact ⟨k + 1, by omega, by go_num, TZ.out, BZ.out⟩ | ((repeat apply Exists.intro); exact ⟨⟨by omega, by go_num, TZ.out, BZ.out⟩, rfl⟩)
            case measure => simp [intOf]; omega
        · obtain rfl : k = N := by omega
          have e1 : decide ((k : Int) < (k : Int)) = false := by simp
          have e2 : decide (k < k) = false := by simp
          have e3 : IntKind.i64.wrap ((k : Int) + 1) = (k : Int) + 1 := IntWalk.i64_in _ (by omega)
          go_wp2_with fail
          refine (around_any at_ ((k : Int) + 1) _ HAT.out.1 HAT.out.2 (by omega) (by omega)).mono ?_
          rintro e w_ ⟨rfl, rfl⟩
          go_wp2_with fail
          refine (tset_any g bc bn cs f (around at_ ((k : Int) + 1)) by_ _ HT.out).mono ?_
          rintro e w4 ⟨⟨u, rfl⟩, ⟨f4, T4⟩, O4⟩
          have T5 := Lib.hid (Lib.hid T4)
          have L5 := Lib.hid (Lib.hid (show (setC cs (around at_ ((k : Int) + 1)) by_).length = k from by rw [setC_len, HCL.out]))
          have B5 := Lib.hid (Lib.hid (HBr.out.trans (O4.below (B := W.heap.size) HBr.out.size (fun x h => by
            rcases h with rfl | rfl
            · exact HF.out _ (.inr (.inl rfl))
            · exact HF.out _ (.inr (.inr rfl))))))
          clear T4 O4
          go_wp2
          go_roundw
          case rel => exact ⟨r + 1, _, f4, by omega, by go_num, T5.out, L5.out, B5.out⟩
          case measure => simp [intOf]; omega
    · have d1 : decide ((r : Int) < 2) = false := by simp; omega
      go_wp2_with fail
      refine (lives_any _).mono ?_
      rintro e w9 ⟨rfl, hb9⟩
      have hb := b_call HBr.out hb9
      go_wp2
      go_ret
      exact ⟨rfl, hb⟩
end Go.Proofs.Ytgelhcgaacnjcaa
