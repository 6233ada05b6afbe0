/-
  WHAT IS PROVED HERE: the walk of the law MerkleSets. No condition but what comes in lies in memory.
-/
import Derived.Test.YtgelhcgaacnjcaaMkT
import Derived.Deep.Cut
import Derived.Deep.CutRange
import Derived.Deep.CutBlock
namespace Go.Proofs.Ytgelhcgaacnjcaa
set_option linter.unusedVariables false
open Go.ChangeShapes Go.WideShapes Go.ChangeAt Go.RowKit

set_option maxRecDepth 100000 in
set_option maxHeartbeats 40000000 in
theorem sets_walk (A : Option Addr) (n c : Nat) (l : List Int) (Aa : Option Addr) (na ca : Nat) (la : List Int) (Ab : Option Addr) (nb cb : Nat) (lb : List Int) (W : World) (rd : Rd W W.heap.size 1 A n (l.map (Value.int .i64))) (hn : n ≤ c) (hc : c ≤ maxLen)
    (ra : Rd W W.heap.size 1 Aa na (la.map (Value.int .i64))) (hla : ∀ x ∈ la, I64 x) (hna : na ≤ maxLen) (rb : Rd W W.heap.size 1 Ab nb (lb.map (Value.int .i64))) (hnb : nb ≤ maxLen) :
    Calls Try.prog 7 #[.slice A n c, .slice Aa na ca, .slice Ab nb cb] W fun e w' => e = .returned (.bool true) ∧ Below W.heap.size W w' := by
  have hll : l.length = n := by have := rd.1; simpa using this
  have HL := Lib.hid (take20 hll)
  have RD := Lib.hid rd
  have RA := Lib.hid ra
  have RB := Lib.hid rb
  have HLA := Lib.hid hla
  have HN := Lib.hid hn
  have HC := Lib.hid hc
  unfold maxLen at hna hnb
  clear rd hn hc hll ra rb hla
  go_enter Try.func7, Try.ntmps7
  go_wp2_with fail
  refine (cells_any A n c l _ RD.out HN.out HC.out).mono ?_
  rintro e w1 ⟨A1, c1, rfl, hm1, hm2, o1, hb1⟩
  obtain ⟨N, hN⟩ : ∃ N, min n 20 = N := ⟨_, rfl⟩
  obtain ⟨cs0, hcs⟩ : ∃ cs, l.take 20 = cs := ⟨_, rfl⟩
  have hN20 : N ≤ 20 := by rw [← hN]; exact Nat.min_le_right _ _
  rw [hN, hcs] at o1 HL
  rw [hN]
  have R1 := Lib.hid (rd_own o1)
  have HB1 := Lib.hid hb1
  have O1 := Lib.hid o1
  clear o1 hN hcs hb1 hm1 hm2
  go_wp2_with fail
  refine (new_any A1 N c1 cs0 _ R1.out (by omega)).mono ?_
  rintro e w2 ⟨g, bc, bn, f0, rfl, T, n2, hb2⟩
  have T2 := Lib.hid T
  have HB2 := Lib.hid (b_call HB1.out hb2)
  have HF := Lib.hid (show ∀ k, TF g bc bn k → W.heap.size ≤ k ∧ k < w2.heap.size from fun k hk => ⟨Nat.le_trans HB1.out.size (n2 k hk), T.lt hk⟩)
  have R2 := Lib.hid (rd_step R1.out hb2)
  have H1 := Lib.hid (show ∀ x, (Value.slice A1 N c1).ownBlock = some x → x < w2.heap.size ∧ ¬ TF g bc bn x from fun x e => by
    obtain ⟨_, cur, hcc⟩ := own_cells O1.out e
    have := (Array.getElem?_eq_some_iff.1 hcc).1
    have h2 := hb2.size
    exact ⟨by omega, fun ht => by have := n2 x ht; omega⟩)
  have O2 := Lib.hid (own_below O1.out hb2)
  clear T hb2 n2 RD
  have hw2 := HB2.out.size
  have OE := Lib.hid (own_shut (base := W.heap.size) (sz := 1) (N := 0) (c := 0) (xs := []) hw2 (Vr.new w2 3 #[]) (by simp) (by simp) (Nat.le_refl _) (by simp [maxLen]) (by simp))
  go_upto_block 0 with (at_builtin; refine wpList_app _ rfl (.tmp 21) (.tmp 22) slInts rfl (v := .slice (some ⟨w2.heap.size, 0, none⟩) 0 0) rfl OE.out rfl (rd_step R2.out (b_alloc (Below.refl _ _) _)) (ints_one _ _) N (Nat.zero_add _) (by unfold maxLen; omega) (by omega) (by simp; omega) ?_; intro A9 c9 w3 g1 g2 g3 g4 g5)
  have HS := Lib.hid (show St W w3 g bc bn w3.heap.size N A9 c9 cs0 cs0 f0 [] none 0 none 0 A1 c1 from by
    have hw3 := g4.size
    simp at hw3
    have hO : Only (· = w2.heap.size) w2 w3 := (o_alloc (Only.refl _ _) _).grown g4 (fun x e => .inl (by simpa [Value.ownBlock] using e.symm))
    have hr9 : ∀ x, (Value.slice A9 N c9).ownBlock = some x → w2.heap.size ≤ x ∧ x < w3.heap.size := fun x e => by
      obtain ⟨_, cur, hcc⟩ := own_cells g3 e
      refine ⟨?_, (Array.getElem?_eq_some_iff.1 hcc).1⟩
      rcases g5 with h | h <;> rw [h] at e
      · simp [Value.ownBlock] at e; omega
      · injection e with e; simp at e; omega
    refine ⟨own_only O2.out hO (fun x e h => by have := H1.out x e; omega), fun x e => ⟨(H1.out x e).2, by have := H1.out x e; omega, fun h => by have := H1.out x e; have := hr9 x h; omega⟩, T2.out.only hO (fun k hk e => by have := HF.out k hk; omega), HL.out, by simpa using g3, fun x e => ?_, own_nil _ _ _ _, own_nil _ _ _ _, (fun x e => by cases e), fun x hx => ?_, rfl, (fun p hp => by cases hp), HB2.out.trans (hO.below (B := W.heap.size) hw2 (fun k e => by omega)), by omega, Nat.le_refl _⟩
    · have hx := hr9 x e
      exact ⟨fun ht => by have := HF.out x ht; omega, hx.2⟩
    · have := HF.out x hx
      omega)
  obtain ⟨B, hB⟩ : ∃ B, w3.heap.size = B := ⟨_, rfl⟩
  rw [hB] at HS
  clear g1 g2 g3 g4 g5 hB OE T2 H1 O2 HB1 HB2 HF R1 R2 O1 hw2
  go_cut [10, 11, 12] from 13 to 103 (fun s10 s11 s12 wr => ∃ (i : Nat) (cs : List Int) (f : Nat → Int) (pl : List (Nat × Int)) (A10 : Option Addr) (c10 : Nat) (A11 : Option Addr) (c11 : Nat), i ≤ 12 ∧ pl.length ≤ i ∧ s12 = .int .i64 i ∧ s10 = .slice A10 pl.length c10 ∧ s11 = .slice A11 pl.length c11 ∧ Hid (St W wr g bc bn B N A9 c9 cs0 cs f pl A10 c10 A11 c11 A1 c1))
  case first =>
    go_wp2
    go_loopw [10, 11, 12] (fun s10 s11 s12 wr => ∃ (i : Nat) (cs : List Int) (f : Nat → Int) (pl : List (Nat × Int)) (A10 : Option Addr) (c10 : Nat) (A11 : Option Addr) (c11 : Nat), i ≤ 12 ∧ pl.length ≤ i ∧ s12 = .int .i64 i ∧ s10 = .slice A10 pl.length c10 ∧ s11 = .slice A11 pl.length c11 ∧ Hid (St W wr g bc bn B N A9 c9 cs0 cs f pl A10 c10 A11 c11 A1 c1)) (fun _ _ s _ => 12 - (intOf s).toNat)
    case atStart => exact ⟨0, cs0, f0, [], none, 0, none, 0, by omega, by simp, rfl, rfl, rfl, HS⟩
    case round =>
      clear HS
      obtain ⟨i, cs, f, pl, A10, c10, A11, c11, hi, hpl, rfl, rfl, rfl, HS⟩ := hrel
      obtain ⟨m, hm⟩ : ∃ m, pl.length = m := ⟨_, rfl⟩
      have HM := Lib.hid hm
      rw [hm] at hpl ⊢
      clear hm
      by_cases hlt : i < na ∧ i < nb ∧ i < 12
      · obtain ⟨h1, h2, h3⟩ := hlt
        have d1 : decide ((i : Int) < (na : Int)) = true := by simp; omega
        have d1' : decide (i < na) = true := by simp; omega
        have d2 : decide ((i : Int) < (nb : Int)) = true := by simp; omega
        have d2' : decide (i < nb) = true := by simp; omega
        have d3 : decide ((i : Int) < 12) = true := by simp; omega
        obtain ⟨ba, oa, la1, rfl, hba, tca⟩ := (RA.out.below HS.out.hb (Nat.le_refl _)).openMap h1
        obtain ⟨bb, ob, lb1, rfl, hbb, tcb⟩ := (RB.out.below HS.out.hb (Nat.le_refl _)).openMap h2
        have hIa := HLA.out _ (List.getElem_mem la1)
        obtain ⟨x, hx⟩ : ∃ x, la[i] = x := ⟨_, rfl⟩
        obtain ⟨v, hv⟩ : ∃ v, lb[i] = v := ⟨_, rfl⟩
        rw [hx] at tca hIa
        rw [hv] at tcb
        obtain ⟨x1, x2⟩ := hIa
        have hk := around_bd x ((N : Int) + 2) (by omega)
        obtain ⟨k, hk0⟩ : ∃ k, around x ((N : Int) + 2) = k := ⟨_, rfl⟩
        rw [hk0] at hk
        have HK0 := Lib.hid hk0
        have e1 : IntKind.i64.wrap ((N : Int) + 2) = (N : Int) + 2 := IntWalk.i64_in _ (by omega)
        clear hx hv hk0 la1 lb1
        go_wp2_with fail
        refine (around_any x ((N : Int) + 2) _ x1 x2 (by omega) (by omega)).mono ?_
        rintro e w_ ⟨rfl, rfl⟩
        rw [HK0.out]
        clear e1 x1 x2
        by_cases hin : 1 ≤ k ∧ k < N + 1
        · obtain ⟨hk1, hk2⟩ := hin
          obtain ⟨j, rfl⟩ : ∃ j : Nat, k = (j : Int) + 1 := ⟨(k - 1).toNat, by omega⟩
          have hjN : j < N := by omega
          have hjl : j < cs.length := by rw [HS.out.L]; exact hjN
          have q2 : decide ((j : Int) < (N : Int)) = true := by simp; omega
          have q2' : decide (j < N) = true := by simp; omega
          go_wp2_with fail
          refine (tset_any g bc bn cs f j v _ HS.out.T).mono ?_
          rintro e w4 ⟨⟨u, rfl⟩, ⟨f4, T4⟩, O4⟩
          have HT4 := Lib.hid (show Tr w4 g bc bn (cs.set j v) f4 from by
            unfold setC at T4
            rw [if_pos ⟨by omega, by rw [HS.out.L]; omega⟩] at T4
            simpa using T4)
          have HO4 := Lib.hid O4
          have hF : ∀ x, (x = bc ∨ x = bn) → TF g bc bn x := fun x h => .inr h
          have P9 := Lib.hid (own_only HS.out.o9 O4 (fun x e h => (HS.out.b9 x e).1 (hF x h)))
          have P10 := Lib.hid (own_only HS.out.o10 O4 (fun x e h => by have := (own_cells HS.out.o10 e).1; have := HS.out.tf x (hF x h); omega))
          have P11 := Lib.hid (own_only HS.out.o11 O4 (fun x e h => by have := (own_cells HS.out.o11 e).1; have := HS.out.tf x (hF x h); omega))
          have hs4 := O4.size
          have hsB := HS.out.hB
          rw [HM.out] at P10 P11
          clear T4 O4 hF
          obtain ⟨g9, cur, h9, hg9, V9, hcur, hnc9, hcs9⟩ := own_open P9.out (by omega)
          have H9 := Lib.hid h9
          obtain ⟨y, hy⟩ : ∃ y, cs[j] = y := ⟨_, rfl⟩
          have HY := Lib.hid hy
          have hcj : w4.cell? ⟨g9, j, none⟩ = some (.int .i64 y) := by
            rw [V9.cell]
            have h1 : (cur.toList.take (N * 1))[j]? = some (.int .i64 y) := by
              rw [hcur]
              simp [hjl, hy]
            rw [List.getElem?_take] at h1
            split at h1
            · simpa using h1
            · cases h1
          have HV9 := Lib.hid V9
          have hB9 := HS.out.b9 g9 (by rw [h9]; simp [Value.ownBlock])
          have HB9 := Lib.hid hB9
          have hg9l := V9.lt
          subst h9
          clear hy hcur hcs9 V9 hB9 hnc9
          go_upto_region 15 with (at_builtin; refine wpList_app _ rfl (.tmp 64) (.tmp 66) slInts rfl (v := .slice A10 m c10) rfl (P10.out.alloc _) rfl (rd_lit w4 _ _ rfl rfl) (by intro u hu; simp at hu; subst hu; rfl) (m + 1) rfl (by unfold maxLen; omega) (by omega) (by simp; omega) ?_; intro A10' c10' w5 t1 t2 t3 t4 t5)
          have hO5 := Lib.hid (show Only (fun x => (Value.slice A10 m c10).ownBlock = some x) w4 w5 from ((Only.refl _ _).alloc _).grown t4 (fun x e => .inl e))
          have hR10 := Lib.hid (show ∀ x, (Value.slice A10' (m + 1) c10').ownBlock = some x → (Value.slice A10 m c10).ownBlock = some x ∨ w4.heap.size ≤ x from fun x e => by
            rcases t5 with h | h <;> rw [h] at e
            · exact .inl e
            · injection e with e; simp at e; exact .inr (by omega))
          have Q10 := Lib.hid t3
          have hn10 : ¬ (Value.slice A10 m c10).ownBlock = some g9 := fun e => by have := (own_cells P10.out e).1; have := HB9.out.2; omega
          have hcj5 : w5.cell? ⟨g9, j, none⟩ = some (.int .i64 y) := only_cell hO5.out hcj hn10
          have P11b := Lib.hid (own_only P11.out hO5.out (fun x e h => HS.out.d x (by rw [HM.out]; exact h) (by rw [HM.out]; exact e)))
          have hs5 := hO5.out.size
          have V9b := Lib.hid (HV9.out.only hO5.out hn10)
          clear t1 t2 t3 t4 t5 hcj
          go_upto_region 16 with (at_builtin; refine wpList_app _ rfl (.tmp 68) (.tmp 73) slInts rfl (v := .slice A11 m c11) rfl (P11b.out.alloc _) rfl (rd_lit w5 _ _ rfl rfl) (by intro u hu; simp at hu; subst hu; rfl) (m + 1) rfl (by unfold maxLen; omega) (by omega) (by simp; omega) ?_; intro A11' c11' w6 t1 t2 t3 t4 t5)
          have hO6 := Lib.hid (show Only (fun x => (Value.slice A11 m c11).ownBlock = some x) w5 w6 from ((Only.refl _ _).alloc _).grown t4 (fun x e => .inl e))
          have hR11 := Lib.hid (show ∀ x, (Value.slice A11' (m + 1) c11').ownBlock = some x → (Value.slice A11 m c11).ownBlock = some x ∨ w5.heap.size ≤ x from fun x e => by
            rcases t5 with h | h <;> rw [h] at e
            · exact .inl e
            · injection e with e; simp at e; exact .inr (by omega))
          have Q11 := Lib.hid t3
          have hn11 : ¬ (Value.slice A11 m c11).ownBlock = some g9 := fun e => by have := (own_cells P11b.out e).1; have := HB9.out.2; omega
          have hcj6 : w6.cell? ⟨g9, j, none⟩ = some (.int .i64 y) := only_cell hO6.out hcj5 hn11
          have hfj6 := (V9b.out.only hO6.out hn11).frozen j
          have tcb6 : w6.cell? ⟨bb, ob + i, none⟩ = some (.int .i64 v) := by
            have hbW : bb < W.heap.size := hbb
            have h5 := HS.out.hB.1
            refine only_cell hO6.out (only_cell hO5.out (only_cell HO4.out tcb (fun h => ?_)) (fun h => ?_)) (fun h => ?_)
            · have := HS.out.tf bb (.inr h); omega
            · have := (own_cells P10.out h).1; omega
            · have := (own_cells P11b.out h).1; omega
          clear t1 t2 t3 t4 t5 hcj5 V9b tcb tca
          go_wp2
          have HSn := Lib.hid (Lib.hid (St.inn (v := v) (w5 := w5) (w6 := w6) (A10' := A10') (c10' := c10') (A11' := A11') (c11' := c11') HS.out hjN hjl rfl HT4.out HO4.out (by rw [HM.out]; exact Q10.out) (by rw [HM.out]; exact hO5.out) (by rw [HM.out]; exact hR10.out) (by rw [HM.out, HY.out]; exact Q11.out) (by rw [HM.out]; exact hO6.out) (by rw [HM.out]; exact hR11.out)))
          have hln := Lib.hid (show (pl ++ [(j, cs[j])]).length = m + 1 from by rw [List.length_append, HM.out]; rfl)
          go_roundw
          case rel => exact ⟨i + 1, _, f4, _, A10', c10', A11', c11', by omega, by rw [hln.out]; omega, by go_num, by rw [hln.out], by rw [hln.out], HSn.out⟩
          case measure => simp [intOf]; omega
        · go_wp2_with fail
          refine (tset_any g bc bn cs f (k - 1) v _ HS.out.T).mono ?_
          rintro e w4 ⟨⟨u, rfl⟩, ⟨f4, T4⟩, O4⟩
          have HS4 := Lib.hid (Lib.hid (HS.out.out (show Tr w4 g bc bn cs f4 from by
            unfold setC at T4
            rw [if_neg (by rw [HS.out.L]; omega)] at T4
            exact T4) O4))
          have hmi : m ≤ i + 1 := by omega
          clear T4 O4 tca tcb
          by_cases hk1 : 1 ≤ k
          · have q1 : decide (1 ≤ k) = true := by simp; omega
            have q2 : decide (k - 1 < (N : Int)) = false := by simp; omega
            go_wp2
            go_roundw
            case rel => exact ⟨i + 1, cs, f4, pl, A10, c10, A11, c11, by omega, by rw [HM.out]; omega, by go_num, by rw [HM.out], by rw [HM.out], HS4.out⟩
            case measure => simp [intOf]; omega
          · have q1 : decide (1 ≤ k) = false := by simp; omega
            go_wp2
            go_roundw
            case rel => exact ⟨i + 1, cs, f4, pl, A10, c10, A11, c11, by omega, by rw [HM.out]; omega, by go_num, by rw [HM.out], by rw [HM.out], HS4.out⟩
            case measure => simp [intOf]; omega
      · rcases (show ¬ i < na ∨ (i < na ∧ ¬ i < nb) ∨ (i < na ∧ i < nb ∧ ¬ i < 12) by omega) with h | ⟨h1, h2⟩ | ⟨h1, h2, h3⟩
        · have d1 : decide ((i : Int) < (na : Int)) = false := by simp; omega
          have d1' : decide (i < na) = false := by simp; omega
          clear hlt h
          go_wp2
          go_meet
          case rel => exact ⟨i, cs, f, pl, A10, c10, A11, c11, hi, by rw [HM.out]; exact hpl, rfl, by rw [HM.out], by rw [HM.out], HS⟩
        · have d1 : decide ((i : Int) < (na : Int)) = true := by simp; omega
          have d1' : decide (i < na) = true := by simp; omega
          have d2 : decide ((i : Int) < (nb : Int)) = false := by simp; omega
          have d2' : decide (i < nb) = false := by simp; omega
          clear hlt h1 h2
          go_wp2
          go_meet
          case rel => exact ⟨i, cs, f, pl, A10, c10, A11, c11, hi, by rw [HM.out]; exact hpl, rfl, by rw [HM.out], by rw [HM.out], HS⟩
        · have d1 : decide ((i : Int) < (na : Int)) = true := by simp; omega
          have d1' : decide (i < na) = true := by simp; omega
          have d2 : decide ((i : Int) < (nb : Int)) = true := by simp; omega
          have d2' : decide (i < nb) = true := by simp; omega
          have d3 : decide ((i : Int) < 12) = false := by simp; omega
          clear hlt h1 h2 h3
          go_wp2
          go_meet
          case rel => exact ⟨i, cs, f, pl, A10, c10, A11, c11, hi, by rw [HM.out]; exact hpl, rfl, by rw [HM.out], by rw [HM.out], HS⟩
  case rest =>
    clear HS
    obtain ⟨i, cs, f, pl, A10, c10, A11, c11, hi, hpl, rfl, rfl, rfl, HS⟩ := hcut
    obtain ⟨m, hm⟩ : ∃ m, pl.length = m := ⟨_, rfl⟩
    have HM := Lib.hid hm
    rw [hm] at hpl ⊢
    clear hm
    go_wp2_with fail
    refine (troot_any HS.out.T).mono ?_
    rintro e w_ ⟨rfl, rfl⟩
    go_wp2_with fail
    refine (rroot_any A9 N c9 cs _ (rd_own HS.out.o9) (by omega)).mono ?_
    rintro e w5 ⟨rfl, hb5⟩
    have HS5 := Lib.hid (HS.out.call hb5)
    obtain ⟨r, hr⟩ : ∃ r, nV cs (hgt cs.length) 0 = r := ⟨_, rfl⟩
    rw [hr]
    have q1 : (r != r) = false := bne_self_eq_false r
    clear hr hb5 HS
    have em : IntKind.i64.wrap ((m : Int) - 1) = (m : Int) - 1 := IntWalk.i64_in _ (by omega)
    go_wp2
    clear q1 em
    go_loopw [14] (fun s wr => ∃ (t : Nat) (cz : List Int) (fz : Nat → Int), t ≤ m ∧ s = .int .i64 ((t : Int) - 1) ∧ Hid (Tr wr g bc bn cz fz) ∧ Hid (cz.length = N) ∧ Hid (undo cz (pl.take t) = cs0) ∧ Hid (Only (fun k => k = bc ∨ k = bn) w5 wr)) (fun s _ => (intOf s + 1).toNat)
    case atStart => exact ⟨m, cs, f, by omega, rfl, HS5.out.T, HS5.out.L, Lib.hid (by rw [List.take_of_length_le (by rw [HM.out]; omega)]; exact HS5.out.u), Lib.hid (Only.refl _ _)⟩
    case round =>
      obtain ⟨t, cz, fz, ht, rfl, HT, HLz, HU, HO⟩ := hrel
      have hF : ∀ x, (x = bc ∨ x = bn) → TF g bc bn x := fun x h => .inr h
      have Q10 := Lib.hid (own_only HS5.out.o10 HO.out (fun x e h => by have := (own_cells HS5.out.o10 e).1; have := HS5.out.tf x (hF x h); omega))
      have Q11 := Lib.hid (own_only HS5.out.o11 HO.out (fun x e h => by have := (own_cells HS5.out.o11 e).1; have := HS5.out.tf x (hF x h); omega))
      have Q1 := Lib.hid (own_only HS5.out.o1 HO.out (fun x e h => (HS5.out.b1 x e).1 (hF x h)))
      rw [HM.out] at Q10 Q11
      have HBw := Lib.hid (HS5.out.hb.trans (HO.out.below (B := W.heap.size) HS5.out.hb.size (fun x h => (HS5.out.tf x (hF x h)).1)))
      clear hF
      by_cases h1 : 1 ≤ t
      · have d5 : decide (0 ≤ (t : Int) - 1) = true := by simp; omega
        have d5' : decide (1 ≤ (t : Int)) = true := by simp; omega
        obtain ⟨b10, o10, l10, rfl, hb10, t10⟩ := (rd_own Q10.out).openMap (k := t - 1) (by omega)
        obtain ⟨b11, o11, l11, rfl, hb11, t11⟩ := (rd_own Q11.out).openMap (k := t - 1) (by omega)
        have hpb := HS5.out.pb _ (List.getElem_mem l10)
        have HTk := Lib.hid (show pl.take t = pl.take (t - 1) ++ [pl[t - 1]] from by
          have := List.take_succ_eq_append_getElem l10
          rw [show t - 1 + 1 = t from by omega] at this
          exact this)
        obtain ⟨⟨a, y⟩, hp⟩ : ∃ p, pl[t - 1] = p := ⟨_, rfl⟩
        rw [hp] at t10 t11 hpb HTk
        simp only at t10 t11 hpb
        obtain ⟨Z, rfl⟩ : ∃ Z : World, Z = wr := ⟨_, rfl⟩
        have E1 := Lib.hid (show (0 : Int) ≤ (t : Int) - 1 ∧ (t : Int) - 1 < (m : Int) ∧ ((t : Int) - 1).toNat = t - 1 from by omega)
        clear hp l10 l11
        go_wp2
        refine wp_region_any (by kernel_rfl) ?_
        change wpAny _ _ _ _ _ _ _ (World.drew _)
        refine take_at (i := 0) (some 94) (v := ?vg2) rfl rfl (by kernel_rfl) (by kernel_rfl) (by kernel_rfl) (fun _ _ _ h => h) (Or.inl ⟨by rfl, ?hg2⟩) ?rg2
        case hg2 => (intro w0; go_simp; try with_reducible rfl)
        simp only [Act.put, List.setIfInBounds_toArray, List.set_cons_zero, List.set_cons_succ]
        refine take_at (i := 1) (some 95) (v := ?vg3) rfl rfl (by kernel_rfl) (by kernel_rfl) (by kernel_rfl) (fun _ _ _ h => h) (Or.inl ⟨by rfl, ?hg3⟩) ?rg3
        case hg3 => (intro w0; go_simp; try with_reducible rfl)
        simp only [Act.put, List.setIfInBounds_toArray, List.set_cons_zero, List.set_cons_succ]
        refine take_at (i := 2) (some 96) (v := ?vg4) rfl rfl (by kernel_rfl) (by kernel_rfl) (by kernel_rfl) (fun _ _ _ h => h) (Or.inl ⟨by rfl, ?hg4⟩) ?rg4
        case hg4 => (intro w0; go_simp; try with_reducible rfl)
        simp only [Act.put, List.setIfInBounds_toArray, List.set_cons_zero, List.set_cons_succ]
        refine take_at (i := 5) (some 99) (v := ?vg5) rfl rfl (by kernel_rfl) (by kernel_rfl) (by kernel_rfl) (fun _ _ _ h => h) (Or.inl ⟨by rfl, ?hg5⟩) ?rg5
        case hg5 => (intro w0; go_simp; try with_reducible rfl)
        simp only [Act.put, List.setIfInBounds_toArray, List.set_cons_zero, List.set_cons_succ]
        refine take_at (i := 6) (some 100) (v := ?vg6) rfl rfl (by kernel_rfl) (by kernel_rfl) (by kernel_rfl) (fun _ _ _ h => h) (Or.inl ⟨by rfl, ?hg6⟩) ?rg6
        case hg6 => (intro w0; go_simp; try with_reducible rfl)
        simp only [Act.put, List.setIfInBounds_toArray, List.set_cons_zero, List.set_cons_succ]
        refine wpAny_go (fun A0 L aa w => ∃ (v97 v98 v101 v102 v103 : Value) (z9 : Value), aa = fr A0 [(97, v97), (98, v98), (101, v101), (102, v102), (103, v103)] ∧ (Hid (L 9 = false → Below Z.heap.size Z w)) ∧ (Hid (L 9 = true → (∃ f2, Tr w g bc bn (setC cz (a : Nat) y) f2) ∧ Only (fun k => k = bc ∨ k = bn) Z w)) ∧ (Hid (L 9 = true → L 4 = true ∧ L 8 = true)) ∧ Hid (L 3 = true → v97 = Value.pointer (some ⟨b10, o10 + (t - 1), none⟩)) ∧ Hid (L 4 = true → v98 = Value.int .i64 (a : Nat)) ∧ Hid (L 7 = true → v101 = Value.pointer (some ⟨b11, o11 + (t - 1), none⟩)) ∧ Hid (L 8 = true → v102 = Value.int .i64 y) ∧ Hid (L 9 = true → v103 = z9)) [3, 4, 7, 8, 9] (by kernel_rfl) (by kernel_rfl) ?a1I ?a1S ?a1D
        case a1I =>
          refine ⟨?a1v97, ?a1v98, ?a1v101, ?a1v102, ?a1v103, .int .i64 0, ?a1fr, Lib.hid (fun _ => b_drew (Below.refl _ _)), Lib.hid (no_yet (by kernel_rfl)), Lib.hid (no_yet (by kernel_rfl)), Lib.hid (no_yet (by kernel_rfl)), Lib.hid (no_yet (by kernel_rfl)), Lib.hid (no_yet (by kernel_rfl)), Lib.hid (no_yet (by kernel_rfl)), Lib.hid (no_yet (by kernel_rfl))⟩
          case a1fr => (simp only [fr, List.foldl_cons, List.foldl_nil, Act.put, List.setIfInBounds_toArray, List.set_cons_zero, List.set_cons_succ]; rfl)
        case a1S =>
          refine Steps.plain (i := 3) (o := ?a1o3) [] ?a1h3 ?a1g3 ?a1d3 ?a1s3 ?a1r3
          case a1h3 => (simp only [List.getElem?_toArray, List.getElem?_cons_succ, List.getElem?_cons_zero]; rfl)
          case a1g3 => rfl
          case a1d3 => kernel_rfl
          case a1s3 =>
            rintro L aa w h0 _ ⟨v97, v98, v101, v102, v103, z9, rfl, hB0, hW, hY, hF⟩ K hK
            simp only [fr, List.foldl_cons, List.foldl_nil, Act.put, List.setIfInBounds_toArray, List.set_cons_zero, List.set_cons_succ]
            obtain ⟨x1, x2, x3⟩ := E1.out
            have x4 : (1 : Int) ≤ (t : Int) := by omega
            go_simp
            exact hK _ _ ⟨(Value.pointer (some ⟨b10, o10 + (t - 1), none⟩)), v98, v101, v102, v103, z9, (by (simp only [fr, List.foldl_cons, List.foldl_nil, Act.put, List.setIfInBounds_toArray, List.set_cons_zero, List.set_cons_succ]); try rfl), hB0, hW, hY, Lib.hid (fun _ => rfl), hF.2.1, hF.2.2.1, hF.2.2.2.1, hF.2.2.2.2⟩
          refine Steps.plain (i := 4) (o := ?a1o4) [3] ?a1h4 ?a1g4 ?a1d4 ?a1s4 ?a1r4
          case a1h4 => (simp only [List.getElem?_toArray, List.getElem?_cons_succ, List.getElem?_cons_zero]; rfl)
          case a1g4 => rfl
          case a1d4 => kernel_rfl
          case a1s4 =>
            rintro L aa w h0 ⟨e3, _⟩ ⟨v97, v98, v101, v102, v103, z9, rfl, hB0, hW, hY, hF⟩ K hK
            obtain rfl := (hF.1).out e3
            simp only [fr, List.foldl_cons, List.foldl_nil, Act.put, List.setIfInBounds_toArray, List.set_cons_zero, List.set_cons_succ]
            have x9 : L 9 = false := by rcases h : L 9 with _ | _ <;> first | rfl | exact absurd (hY.out h).1 (by simp [h0])
            have y10 := cell_keep (hB0.out x9) t10
            go_simp
            exact hK _ _ ⟨(Value.pointer (some ⟨b10, o10 + (t - 1), none⟩)), (Value.int .i64 (a : Nat)), v101, v102, v103, z9, (by (simp only [fr, List.foldl_cons, List.foldl_nil, Act.put, List.setIfInBounds_toArray, List.set_cons_zero, List.set_cons_succ]); try rfl), hB0, hW, Lib.hid (fun h => ⟨rfl, (hY.out h).2⟩), hF.1, Lib.hid (fun _ => rfl), hF.2.2.1, hF.2.2.2.1, hF.2.2.2.2⟩
          refine Steps.plain (i := 7) (o := ?a1o7) [] ?a1h7 ?a1g7 ?a1d7 ?a1s7 ?a1r7
          case a1h7 => (simp only [List.getElem?_toArray, List.getElem?_cons_succ, List.getElem?_cons_zero]; rfl)
          case a1g7 => rfl
          case a1d7 => kernel_rfl
          case a1s7 =>
            rintro L aa w h0 _ ⟨v97, v98, v101, v102, v103, z9, rfl, hB0, hW, hY, hF⟩ K hK
            simp only [fr, List.foldl_cons, List.foldl_nil, Act.put, List.setIfInBounds_toArray, List.set_cons_zero, List.set_cons_succ]
            obtain ⟨x1, x2, x3⟩ := E1.out
            have x4 : (1 : Int) ≤ (t : Int) := by omega
            go_simp
            exact hK _ _ ⟨v97, v98, (Value.pointer (some ⟨b11, o11 + (t - 1), none⟩)), v102, v103, z9, (by (simp only [fr, List.foldl_cons, List.foldl_nil, Act.put, List.setIfInBounds_toArray, List.set_cons_zero, List.set_cons_succ]); try rfl), hB0, hW, hY, hF.1, hF.2.1, Lib.hid (fun _ => rfl), hF.2.2.2.1, hF.2.2.2.2⟩
          refine Steps.plain (i := 8) (o := ?a1o8) [7] ?a1h8 ?a1g8 ?a1d8 ?a1s8 ?a1r8
          case a1h8 => (simp only [List.getElem?_toArray, List.getElem?_cons_succ, List.getElem?_cons_zero]; rfl)
          case a1g8 => rfl
          case a1d8 => kernel_rfl
          case a1s8 =>
            rintro L aa w h0 ⟨e7, _⟩ ⟨v97, v98, v101, v102, v103, z9, rfl, hB0, hW, hY, hF⟩ K hK
            obtain rfl := (hF.2.2.1).out e7
            simp only [fr, List.foldl_cons, List.foldl_nil, Act.put, List.setIfInBounds_toArray, List.set_cons_zero, List.set_cons_succ]
            have x9 : L 9 = false := by rcases h : L 9 with _ | _ <;> first | rfl | exact absurd (hY.out h).2 (by simp [h0])
            have y11 := cell_keep (hB0.out x9) t11
            go_simp
            exact hK _ _ ⟨v97, v98, (Value.pointer (some ⟨b11, o11 + (t - 1), none⟩)), (Value.int .i64 y), v103, z9, (by (simp only [fr, List.foldl_cons, List.foldl_nil, Act.put, List.setIfInBounds_toArray, List.set_cons_zero, List.set_cons_succ]); try rfl), hB0, hW, Lib.hid (fun h => ⟨(hY.out h).1, rfl⟩), hF.1, hF.2.1, hF.2.2.1, Lib.hid (fun _ => rfl), hF.2.2.2.2⟩
          refine Steps.plain (i := 9) (o := ?a1o9) [4, 8] ?a1h9 ?a1g9 ?a1d9 ?a1s9 ?a1r9
          case a1h9 => (simp only [List.getElem?_toArray, List.getElem?_cons_succ, List.getElem?_cons_zero]; rfl)
          case a1g9 => rfl
          case a1d9 => kernel_rfl
          case a1s9 =>
            rintro L aa w h0 ⟨e4, e8, _⟩ ⟨v97, v98, v101, v102, v103, z9, rfl, hB0, hW, hY, hF⟩ K hK
            obtain rfl := (hF.2.1).out e4
            obtain rfl := (hF.2.2.2.1).out e8
            simp only [fr, List.foldl_cons, List.foldl_nil, Act.put, List.setIfInBounds_toArray, List.set_cons_zero, List.set_cons_succ]
            have hb0 := hB0.out h0
            go_simp
            refine (tset_any g bc bn cz fz a y _ (HT.out.call hb0)).mono ?_
            rintro e w6 ⟨⟨u, rfl⟩, hT6, hO6⟩
            have hO7 := (Only.of_below hb0 (fun k => k = bc ∨ k = bn) (fun k h1 h2 => by omega)).trans hO6
            exact hK _ _ ⟨v97, (Value.int .i64 (a : Nat)), v101, (Value.int .i64 y), ((u)), u, (by (simp only [fr, List.foldl_cons, List.foldl_nil, Act.put, List.setIfInBounds_toArray, List.set_cons_zero, List.set_cons_succ]); try rfl), Lib.hid (fun h => by cases h), Lib.hid (fun _ => ⟨hT6, hO7⟩), Lib.hid (fun _ => ⟨e4, e8⟩), hF.1, hF.2.1, hF.2.2.1, hF.2.2.2.1, Lib.hid (fun _ => rfl)⟩
          exact Steps.nil
        case a1D =>
          rintro L aa w hL ⟨v97, v98, v101, v102, v103, z9, rfl, hB0, hW, hY, hF⟩
          obtain rfl := (hF.1).out (hL 3 (by decide))
          obtain rfl := (hF.2.1).out (hL 4 (by decide))
          obtain rfl := (hF.2.2.1).out (hL 7 (by decide))
          obtain rfl := (hF.2.2.2.1).out (hL 8 (by decide))
          obtain rfl := (hF.2.2.2.2).out (hL 9 (by decide))
          have l3 := hL 3 (by decide)
          have l4 := hL 4 (by decide)
          have l7 := hL 7 (by decide)
          have l8 := hL 8 (by decide)
          have l9 := hL 9 (by decide)
          clear hL
          simp only [fr, List.foldl_cons, List.foldl_nil, Act.put, List.setIfInBounds_toArray, List.set_cons_zero, List.set_cons_succ]
          obtain ⟨⟨f6, T6⟩, O6⟩ := hW.out l9
          have T7 := Lib.hid (Lib.hid T6)
          have L7 := Lib.hid (Lib.hid (show (setC cz (a : Nat) y).length = N from by rw [setC_len, HLz.out]))
          have U7 := Lib.hid (Lib.hid (show undo (setC cz (a : Nat) y) (pl.take (t - 1)) = cs0 from by
            have := HU.out
            rw [HTk.out, undo_last] at this
            unfold setC
            rw [if_pos ⟨by omega, by rw [HLz.out]; omega⟩]
            simpa using this))
          have O7 := Lib.hid (Lib.hid (HO.out.trans O6))
          clear T6 O6 hW hY hB0
          go_wp2
          go_roundw
          case rel => exact ⟨t - 1, _, f6, by omega, by go_num, T7.out, L7.out, U7.out, O7.out⟩
          case measure => simp [intOf]; omega
      · obtain rfl : t = 0 := by omega
        have d5 : decide (0 ≤ ((0 : Nat) : Int) - 1) = false := by decide
        have d6 : decide ((0 : Int) ≤ -1) = false := by decide
        have d7 : decide ((0 : Int) ≤ (0 : Int) - 1) = false := by decide
        have HE := Lib.hid (show cz = cs0 from HU.out)
        rw [HE.out] at HT
        clear HE HU HLz
        have R1 := Lib.hid (rd_own Q1.out)
        clear Q10 Q11 Q1
        go_wp2_with fail
        refine (troot_any HT.out).mono ?_
        rintro e w_ ⟨rfl, rfl⟩
        obtain ⟨r2, hr2⟩ : ∃ r, nV cs0 (hgt cs0.length) 0 = r := ⟨_, rfl⟩
        have HR2 := Lib.hid hr2
        rw [hr2]
        clear hr2
        go_wp2_with fail
        refine (mroot_any A1 N c1 cs0 _ R1.out (by omega)).mono ?_
        rintro e w7 ⟨rfl, hb7⟩
        rw [HR2.out]
        have q9 : (r2 == r2) = true := beq_self_eq_true r2
        have hb8 := b_call HBw.out hb7
        go_wp2_with fail
        refine (lives_any _).mono ?_
        rintro e w9 ⟨rfl, hb9⟩
        have hb10 := b_call hb8 hb9
        go_wp2
        go_ret
        exact ⟨rfl, hb10⟩
end Go.Proofs.Ytgelhcgaacnjcaa
