/-
  WHAT IS PROVED HERE: the walk of the law CommitrevealFaults: it returns true at every input and leaves old memory as it was.
-/
import Derived.Test.YtojmkfhinkmhaaaCrP
namespace Go.Proofs.Ytojmkfhinkmhaaa
set_option linter.unusedVariables false
open Go.ChangeShapes Go.WideShapes Go.ChangeAt Go.RowKit

theorem inputs_val (l : List Int) (m : Nat) : ∀ x ∈ (l.map inpOf).take m, Val x := by
  intro x hx
  obtain ⟨y, _, rfl⟩ := List.mem_map.1 (List.mem_of_mem_take hx)
  exact inpOf_val y
set_option maxRecDepth 100000 in
set_option maxHeartbeats 4000000 in
theorem faults_walk (A1 : Option Addr) (n1 c1 : Nat) (l1 : List Int) (A2 : Option Addr) (n2 c2 : Nat) (l2 : List Int) (w : World) (rd1 : Rd w w.heap.size 1 A1 n1 (l1.map (Value.int .i64))) (wf1 : ∀ x ∈ l1, -9223372036854775808 ≤ x ∧ x ≤ 9223372036854775807) (hn1 : n1 ≤ 9223372036854775807)
    (rd2 : Rd w w.heap.size 1 A2 n2 (l2.map (Value.int .i64))) (wf2 : ∀ x ∈ l2, -9223372036854775808 ≤ x ∧ x ≤ 9223372036854775807) (hn2 : n2 ≤ 9223372036854775807) :
    Calls Try.prog 7 #[.slice A1 n1 c1, .slice A2 n2 c2] w fun e w' => e = .returned (.bool true) ∧ Below w.heap.size w w' := by
  have R1 := Lib.hid rd1
  have R2 := Lib.hid rd2
  have W1 := Lib.hid wf1
  have W2 := Lib.hid wf2
  clear rd1 rd2 wf1 wf2
  go_enter Try.func7, Try.ntmps7
  go_wp2_with fail
  refine (crnew_q 5 2 _ (by omega)).mono ?_
  rintro e w2 ⟨g, rfl, hg, hC2, hb2⟩
  have X2 := Lib.hid (Cx.mk (w0 := w) hC2 hg hb2)
  clear hC2 hb2 hg
  go_wp2_with fail
  refine (acts_any A1 n1 c1 l1 _ (rd_step R1.out X2.out.hb) W1.out hn1).mono ?_
  rintro e w3 ⟨L, A3, c3, rfl, hL24, hG, hown, hb3⟩
  have X3 := Lib.hid (X2.out.call hb3)
  have O3 := Lib.hid hown
  have HG := Lib.hid hG
  have hg3 := X2.out.cr.facts.2.2.2.1
  have hwB := X2.out.hb.size
  obtain ⟨B, hB⟩ : ∃ B, w2.heap.size = B := ⟨_, rfl⟩
  have hB3 : B ≤ w3.heap.size := by rw [← hB]; exact hb3.size
  rw [hB] at O3 hg3 hwB
  clear hown hG hb3 X2 hB R1 W1
  go_wp2
  go_loopw [6, 8] (fun s6 s8 wr => ∃ (i : Nat) (r : RdV) (V : List Int) (A4 : Option Addr) (n4 c4 : Nat), i ≤ L.length ∧ s8 = .int .i64 i ∧ s6 = .slice A4 n4 c4 ∧ n4 ≤ 5 ∧ B ≤ wr.heap.size ∧ Hid (V.length = n4) ∧ Hid (Cx w wr g r) ∧ Hid (Fau r V) ∧ Hid (wr.ownsRow B 49 6 (.slice A3 L.length c3) L.length (actsC L)) ∧ Hid (wr.ownsRow B 3 1 (.slice A4 n4 c4) n4 (V.map (Value.int .i64)))) (fun _ s8 _ => L.length - (intOf s8).toNat)
  case atStart => exact ⟨0, _, [], none, 0, 0, by omega, rfl, rfl, by omega, hB3, rfl, X3, fau_new 2, O3, Lib.hid (own_nil _ _ _ _)⟩
  case round =>
    obtain ⟨i, r, V, A4, n4, c4, hi, rfl, rfl, hn45, hBr, HVL, HX, HF, HO, HV⟩ := hrel
    by_cases hlt : i < L.length
    · have d1 : decide (i < L.length) = true := decide_eq_true hlt
      obtain ⟨b0, o0, hl, rfl, hb0, y0, y1, y2, y3, y4, y5⟩ := (rd_own HO.out).openAct hlt
      have hGa := HG.out _ (List.getElem_mem hl)
      obtain ⟨⟨d, pp, ⟨xa, xb, xc⟩, nn⟩, hx⟩ : ∃ x, L[i] = x := ⟨_, rfl⟩
      rw [hx] at y0 y1 y2 y3 y4 y5 hGa
      simp only at y0 y1 y2 y3 y4 y5
      have GA := Lib.hid hGa
      have HXX := Lib.hid hx
      clear hx hGa
      obtain ⟨E, hE⟩ : ∃ E, dsE r 2 ⟨d, pp, (xa, xb, xc), nn⟩ = E := ⟨_, rfl⟩
      obtain ⟨r', hr⟩ : ∃ E, dsR r 2 ⟨d, pp, (xa, xb, xc), nn⟩ = E := ⟨_, rfl⟩
      have HE := Lib.hid hE
      have HR' := Lib.hid hr
      clear hE hr
      go_wp2_with fail
      refine (does_q g 2 d pp xa xb xc nn r _ E r' GA.out HE.out HR'.out HX.out.cr (by rw [HF.out.k]; omega)).mono ?_
      rintro e w5 ⟨rfl, hC5, hO5⟩
      have X5 := Lib.hid (HX.out.turn hC5 hO5)
      have O5 := Lib.hid (own_turn HO.out hO5 hg3)
      have V5 := Lib.hid (own_turn HV.out hO5 hg3)
      have hB5 := Nat.le_trans hBr hO5.size
      clear hC5 hO5 y0 y1 y2 y3 y4 y5 HX HO HV hb0
      obtain ⟨b1, o1, hl, he, hb0, y0, y1, y2, y3, y4, y5⟩ := (rd_own O5.out).openAct hlt
      injection he with he
      injection he with he1 he2
      subst he1 he2
      rw [HXX.out] at y0 y1 y2 y3 y4 y5
      simp only at y0 y1 y2 y3 y4 y5
      by_cases he : E = 0
      · subst he
        by_cases hd : d = 1
        · subst hd
          have HH := Lib.hid (fau_hit HF.out 2 (a := ⟨1, pp, (xa, xb, xc), nn⟩) rfl HE.out)
          rw [HR'.out] at HH
          have hbm : decide (pp ∈ V) = false := decide_eq_false HH.out.1
          have HBM := Lib.hid hbm
          have hn46 : n4 + 1 ≤ 5 := by
            have h1 := HH.out.2.cnt
            have h2 := HVL.out
            rw [List.length_append, List.length_singleton] at h1
            omega
          clear hbm
          go_wp2_with fail
          refine (has_q A4 n4 c4 V pp false _ HBM.out (by omega) (rd_own V5.out)).mono ?_
          rintro e w_ ⟨rfl, rfl⟩
          go_wp2_with (at_builtin; refine wpList_app _ rfl (.tmp 48) (.tmp 54) slInts rfl rfl (own_below V5.out (by (repeat (first | (with_reducible exact Below.refl _ _) | (with_reducible assumption) | (with_reducible refine b_drew ?_) | (with_reducible refine b_drewN ?_ _) | (with_reducible refine b_alloc ?_ _) | ((with_reducible refine b_set ?_ ?_ _); rotate_left; (focus (first | omega | (simp; done) | (simp; omega) | (simp at *; omega)))) | (with_reducible refine b_call ?_ (by with_reducible assumption)))))) rfl (rd_lit _ _ _ rfl rfl) (by intro u hu; simp at hu; subst hu; rfl) (n4 + 1) rfl (by unfold maxLen; omega) (by omega) (by simp; omega) ?_; intro A6 c6 w6 g1 g2 g3 g4 g5)
          have hA := own_apart (own_below O5.out (b_alloc (Below.refl w5.heap.size w5) (.cells #[.int .i64 pp] 3))) (own_below V5.out (b_alloc (Below.refl w5.heap.size w5) _)) (by decide)
          have hb56 : Below B w5 w6 := below_app (B0 := B) (a0 := w5) ((b_alloc (Below.refl w5.heap.size w5) _).mono hB5) (own_below V5.out (b_alloc (Below.refl w5.heap.size w5) _)) g4 (Nat.le_refl _) (by simp; omega)
          have X6 := Lib.hid (show Cx w w6 g r' from ⟨Vr.keep X5.out.cr hb56 hg3, X5.out.hp, X5.out.hb.trans (hb56.mono hwB)⟩)
          have O6 := Lib.hid ((own_below O5.out (b_alloc (Below.refl w5.heap.size w5) _)).kept g4 hA)
          have V6 := Lib.hid g3
          have hB6 : B ≤ w6.heap.size := Nat.le_trans hB5 hb56.size
          clear g1 g2 g3 g4 g5 hA hb56
          go_roundw
          case rel => exact ⟨i + 1, r', V ++ [pp], A6, n4 + 1, c6, by omega, by go_num, rfl, hn46, hB6, Lib.hid (by rw [List.length_append, HVL.out]; rfl), X6, HH.out.2, O6, Lib.hid (by rw [List.map_append]; exact V6.out)⟩
          case measure => simp [intOf]; omega
        · have q1 : (d == 1) = false := by rw [beq_eq_false_iff_ne]; exact hd
          have HM := Lib.hid (show Fau r' V from by rw [← HR'.out]; exact fau_miss HF.out 2 GA.out (fun h => hd h.1))
          clear hd
          go_wp2
          go_roundw
          case rel => exact ⟨i + 1, r', V, A4, n4, c4, by omega, by go_num, rfl, hn45, hB5, HVL, X5, HM, O5, V5⟩
          case measure => simp [intOf]; omega
      · have q1 : (E == 0) = false := by rw [beq_eq_false_iff_ne]; exact he
        have HM := Lib.hid (show Fau r' V from by rw [← HR'.out]; exact fau_miss HF.out 2 GA.out (fun h => he (by rw [← HE.out]; exact h.2)))
        clear he
        go_wp2
        go_roundw
        case rel => exact ⟨i + 1, r', V, A4, n4, c4, by omega, by go_num, rfl, hn45, hB5, HVL, X5, HM, O5, V5⟩
        case measure => simp [intOf]; omega
    · obtain rfl : L.length = i := by omega
      have HKV := Lib.hid (inputs_val l2 5)
      obtain ⟨known, hkn⟩ : ∃ x, (l2.map inpOf).take 5 = x := ⟨_, rfl⟩
      go_wp2_with fail
      refine (inputs_any A2 n2 c2 l2 5 5 _ rfl W2.out (rd_step R2.out HX.out.hb) hn2 (by omega)).mono ?_
      rintro e w5 ⟨A5, c5, rfl, _, _, hown5, hb5⟩
      have R5 := Lib.hid (rd_own hown5)
      have X5 := Lib.hid (HX.out.call hb5)
      have V5 := Lib.hid (rd_step (rd_own HV.out) hb5)
      rw [hkn] at R5 HKV
      have hm5 : min n2 5 ≤ 5 := Nat.min_le_right _ _
      obtain ⟨m5, hm⟩ : ∃ m, min n2 5 = m := ⟨_, rfl⟩
      rw [hm] at R5 hm5 ⊢
      clear hown5 hb5 HX R2 W2 hkn HO HV hm
      go_wp2_with fail
      refine (result_any g A5 m5 c5 known r _ X5.out.cr (by rw [HF.out.k]; omega) R5.out).mono ?_
      rintro e w6 ⟨A6, c6, A7, c7, rfl, o1, o2, hb6⟩
      have X6 := Lib.hid (X5.out.call hb6)
      have R6 := Lib.hid (rd_step R5.out hb6)
      have V6 := Lib.hid (rd_step V5.out hb6)
      have S1 := Lib.hid (rd_own o1)
      have S2 := Lib.hid (rd_own o2)
      have hcnt := HF.out.cnt
      rw [HVL.out] at hcnt
      rw [HF.out.k] at S1 S2
      rw [HF.out.k]
      obtain ⟨nF, hnF⟩ : ∃ x, (resF r 5).length = x := ⟨_, rfl⟩
      rw [hnF] at hcnt S2 ⊢
      have q5 : (((nF : Int) + (n4 : Int)) != 5) = false := by
        rw [bne_eq_false_iff_eq]
        omega
      have hnF5 : nF ≤ 5 := by omega
      have HMK := Lib.hid (show known.length = m5 from by have := R6.out.1; rw [flat_length] at this; omega)
      clear o1 o2 hb6 X5 R5 V5 hcnt hnF
      go_wp2
      go_loopw [12] (fun s12 wr => ∃ j : Nat, j ≤ 5 ∧ s12 = .int .i64 j ∧ Below w6.heap.size w6 wr) (fun s12 _ => 5 - (intOf s12).toNat)
      case atStart => exact ⟨0, by omega, rfl, Below.refl _ _⟩
      case round =>
        obtain ⟨j, hj, rfl, hB⟩ := hrel
        by_cases hlt : j < 5
        · have d1 : decide ((j : Int) < 5) = true := decide_eq_true (by omega)
          obtain ⟨e1, e2⟩ := fau_res HF.out known hlt
          obtain ⟨bb, hbb⟩ : ∃ b, (r.st j).r = b := ⟨_, rfl⟩
          have HRV := Lib.hid (show resV r known j = if bb then (r.st j).i else pred (known.getD j (0, 0, 0)) from by unfold resV; rw [hbb])
          rw [hbb] at e1 e2
          have E1 := Lib.hid e1
          have E2 := Lib.hid e2
          have HVV := Lib.hid (res_val HF.out HKV.out j)
          obtain ⟨b6, o6, hl6, rfl, hb6, y0, y1, y2⟩ := (rd_step S1.out hB).openRow (k := j) hlt
          obtain ⟨⟨xa, xb, xc⟩, hx⟩ : ∃ x, resV r known j = x := ⟨_, rfl⟩
          have ex : (resL r known 5)[j]'hl6 = (xa, xb, xc) := by
            have := resL_get r known hlt
            rw [List.getElem?_eq_getElem hl6, hx] at this
            injection this
          have EX := Lib.hid (show (resL r known 5)[j]? = some (xa, xb, xc) from by rw [List.getElem?_eq_getElem hl6, ex])
          rw [ex] at y0 y1 y2
          rw [hx] at HRV HVV
          simp only at y0 y1 y2
          clear e1 e2 hbb ex hx
          go_wp2_with fail
          refine (has_q A7 nF c7 _ _ (!bb) _ E1.out (by omega) (rd_step S2.out hB)).mono ?_
          rintro e w_ ⟨rfl, rfl⟩
          go_wp2_with fail
          refine (has_q A4 n4 c4 _ _ bb _ E2.out (by omega) (rd_step V6.out hB)).mono ?_
          rintro e w_ ⟨rfl, rfl⟩
          have qb : ((!bb) == bb) = false := by rcases bb with _ | _ <;> rfl
          obtain ⟨⟨la, lb, lc⟩, hlk⟩ : ∃ x, known.getD j (0, 0, 0) = x := ⟨_, rfl⟩
          rw [hlk] at HRV
          have HLK := Lib.hid hlk
          have k1 : (0 : Int) ≤ (j : Int) := by omega
          have k2 : (j : Int) < 5 := by omega
          clear hlk
          go_upto_if 91 with fail
          refine name_world ?_
          intro X hX
          have V14 := Lib.hid (show Vr X wr.heap.size 25 #[.int .i64 0, .int .i64 0, .int .i64 0] from by rw [hX]; exact Vr.new wr _ _)
          have HBX : Below wr.heap.size wr X := by rw [hX]; (repeat (first | (with_reducible exact Below.refl _ _) | (with_reducible assumption) | (with_reducible refine b_drew ?_) | (with_reducible refine b_drewN ?_ _) | (with_reducible refine b_alloc ?_ _) | ((with_reducible refine b_set ?_ ?_ _); rotate_left; (focus (first | omega | (simp; done) | (simp; omega) | (simp at *; omega)))) | (with_reducible refine b_call ?_ (by with_reducible assumption))))
          obtain ⟨v1, v2, v3⟩ := V14.out.facts
          clear hX y0 y1 y2
          go_cut [] from 92 to 96 (fun wx => Hid (Vr wx wr.heap.size 25 #[.int .i64 la, .int .i64 lb, .int .i64 lc]) ∧ Below wr.heap.size wr wx)
          case first =>
            by_cases hjk : j < m5
            · obtain ⟨b7, o7, hl7, rfl, hb7, z0, z1, z2⟩ := (R6.out.below (b_call hB HBX) (Nat.le_refl _)).openRow (k := j) hjk
              have hkk : known[j]'hl7 = (la, lb, lc) := by
                have := HLK.out
                rw [List.getD_eq_getElem?_getD, List.getElem?_eq_getElem hl7] at this
                exact this
              rw [hkk] at z0 z1 z2
              simp only at z0 z1 z2
              have hd : decide ((j : Int) < (m5 : Int)) = true := by simp; omega
              have hsz := hB.size
              have hne : ¬ wr.heap.size = b7 := by omega
              have hne' : ¬ b7 = wr.heap.size := by omega
              clear hkk
              go_wp2
              go_meet
              case rel => exact ⟨Lib.hid (by simpa using ((V14.out.set 0 (.int .i64 la)).set 1 (.int .i64 lb)).set 2 (.int .i64 lc)), b_set (b_set (b_set HBX (Nat.le_refl _) _) (Nat.le_refl _) _) (Nat.le_refl _) _⟩
            · have hd : decide ((j : Int) < (m5 : Int)) = false := by simp; omega
              have HZ := Lib.hid (show (0, 0, 0) = (la, lb, lc) from by
                have := HLK.out
                rw [List.getD_eq_getElem?_getD, List.getElem?_eq_none (by rw [HMK.out]; omega)] at this
                exact this)
              go_wp2
              go_meet
              case rel => exact ⟨Lib.hid (by have e := HZ.out; injection e with e1 e2; injection e2 with e2 e3; subst e1 e2 e3; exact V14.out), HBX⟩
          case' rest =>
            clear V14 HBX v1 v2 v3
          obtain ⟨V14, HBX⟩ := hcut
          obtain ⟨Y, rfl⟩ : ∃ W : World, W = wc := ⟨_, rfl⟩
          have y0 : Y.cell? ⟨wr.heap.size, 0, none⟩ = some (.int .i64 la) := V14.out.cell 0
          have y1 : Y.cell? ⟨wr.heap.size, 1, none⟩ = some (.int .i64 lb) := V14.out.cell 1
          have y2 : Y.cell? ⟨wr.heap.size, 2, none⟩ = some (.int .i64 lc) := V14.out.cell 2
          have hyl := V14.out.lt
          obtain ⟨b8, o8, hl8, he, hb8, z0, z1, z2⟩ := (rd_step S1.out (b_call hB HBX)).openRow (k := j) hlt
          injection he with he
          injection he with he1 he2
          subst he1 he2
          have ex : (resL r known 5)[j]'hl8 = (xa, xb, xc) := by
            have := EX.out
            rw [List.getElem?_eq_getElem hl8] at this
            injection this
          rw [ex] at z0 z1 z2
          simp only at z0 z1 z2
          clear ex EX
          have qv := vcode_yes HVV.out
          have hBY := b_call hB HBX
          rcases bb with _ | _
          · have ee := HRV.out
            rw [if_neg (by decide)] at ee
            unfold pred at ee
            simp only at ee
            injection ee with ee1 ee2
            injection ee2 with ee2 ee3
            subst ee1 ee2 ee3
            have n1 := fun W => run_neq3 xa xb 0 xa xb 0 W
            have n2' := eqInp_self (xa, xb, 0)
            clear HRV HVV HLK
            simp only [Bool.not_false]
            go_wp2
            go_region_held3 (fun w' => (∀ b o, b < Y.heap.size → w'.cell? ⟨b, o, none⟩ = Y.cell? ⟨b, o, none⟩) ∧ Below Y.heap.size Y w') (first | exact still_call (by assumption) (by assumption) | exact still_drew0 _ | exact still_drew (by assumption) | exact still_alloc (by assumption) _ | exact still_of (by (repeat (first | (with_reducible exact Below.refl _ _) | (with_reducible assumption) | (with_reducible refine b_drew ?_) | (with_reducible refine b_drewN ?_ _) | (with_reducible refine b_alloc ?_ _) | ((with_reducible refine b_set ?_ ?_ _); rotate_left; (focus (first | omega | (simp; done) | (simp; omega) | (simp at *; omega)))) | (with_reducible refine b_call ?_ (by with_reducible assumption)))))) (first | (go_at_call 25; refine (predict3 _ _ _ _).mono ?_; rintro e w13 ⟨rfl, hb13⟩) | (go_at_call 26; refine (validate3 _ _ _ _).mono ?_; rintro e w14 ⟨rfl, hb14⟩))
            all_goals
              go_wp2
              go_roundw
              case rel => exact ⟨j + 1, by omega, by go_num, b_call hBY (by (repeat (first | (with_reducible exact Below.refl _ _) | (with_reducible assumption) | (with_reducible refine b_drew ?_) | (with_reducible refine b_drewN ?_ _) | (with_reducible refine b_alloc ?_ _) | ((with_reducible refine b_set ?_ ?_ _); rotate_left; (focus (first | omega | (simp; done) | (simp; omega) | (simp at *; omega)))) | (with_reducible refine b_call ?_ (by with_reducible assumption)))))⟩
              case measure => simp [intOf]; omega
          · clear HRV HVV HLK
            simp only [Bool.not_true]
            go_wp2
            refine wp_region_any (by kernel_rfl) ?_
            change wpAny _ _ _ _ _ _ _ (World.drew _)
            refine take_at (i := 0) (some 96) (v := ?vg2) rfl rfl (by kernel_rfl) (by kernel_rfl) (by kernel_rfl) (fun _ _ _ h => h) (Or.inl ⟨by rfl, ?hg2⟩) ?rg2
            case hg2 => (intro w0; go_simp; try with_reducible rfl)
            simp only [Act.put, List.setIfInBounds_toArray, List.set_cons_zero, List.set_cons_succ]
            refine take_at (i := 1) (some 97) (v := ?vg3) rfl rfl (by kernel_rfl) (by kernel_rfl) (by kernel_rfl) (fun _ _ _ h => h) (Or.inl ⟨by rfl, ?hg3⟩) ?rg3
            case hg3 => (intro w0; go_simp; try with_reducible rfl)
            simp only [Act.put, List.setIfInBounds_toArray, List.set_cons_zero, List.set_cons_succ]
            refine take_at (i := 2) (some 98) (v := undef) rfl rfl (by kernel_rfl) (by kernel_rfl) (by kernel_rfl) (fun _ _ _ h => h) (Or.inr ⟨by rfl, rfl⟩) ?rg4
            simp only [Act.put, List.setIfInBounds_toArray, List.set_cons_zero, List.set_cons_succ]
            refine take_at (i := 3) (some 99) (v := undef) rfl rfl (by kernel_rfl) (by kernel_rfl) (by kernel_rfl) (fun _ _ _ h => h) (Or.inr ⟨by rfl, rfl⟩) ?rg5
            simp only [Act.put, List.setIfInBounds_toArray, List.set_cons_zero, List.set_cons_succ]
            refine take_at (i := 4) (some 100) (v := undef) rfl rfl (by kernel_rfl) (by kernel_rfl) (by kernel_rfl) (fun _ _ _ h => h) (Or.inr ⟨by rfl, rfl⟩) ?rg6
            simp only [Act.put, List.setIfInBounds_toArray, List.set_cons_zero, List.set_cons_succ]
            refine take_at (i := 5) (some 101) (v := undef) rfl rfl (by kernel_rfl) (by kernel_rfl) (by kernel_rfl) (fun _ _ _ h => h) (Or.inr ⟨by rfl, rfl⟩) ?rg7
            simp only [Act.put, List.setIfInBounds_toArray, List.set_cons_zero, List.set_cons_succ]
            refine take_at (i := 6) (some 102) (v := undef) rfl rfl (by kernel_rfl) (by kernel_rfl) (by kernel_rfl) (fun _ _ _ h => h) (Or.inr ⟨by rfl, rfl⟩) ?rg8
            simp only [Act.put, List.setIfInBounds_toArray, List.set_cons_zero, List.set_cons_succ]
            refine take_at (i := 7) (some 103) (v := undef) rfl rfl (by kernel_rfl) (by kernel_rfl) (by kernel_rfl) (fun _ _ _ h => h) (Or.inr ⟨by rfl, rfl⟩) ?rg9
            simp only [Act.put, List.setIfInBounds_toArray, List.set_cons_zero, List.set_cons_succ]
            refine take_at (i := 8) (some 104) (v := undef) rfl rfl (by kernel_rfl) (by kernel_rfl) (by kernel_rfl) (fun _ _ _ h => h) (Or.inr ⟨by rfl, rfl⟩) ?rg10
            simp only [Act.put, List.setIfInBounds_toArray, List.set_cons_zero, List.set_cons_succ]
            refine take_at (i := 9) (some 105) (v := ?vg11) rfl rfl (by kernel_rfl) (by kernel_rfl) (by kernel_rfl) (fun _ _ _ h => h) (Or.inl ⟨by rfl, ?hg11⟩) ?rg11
            case hg11 => (intro w0; go_simp; try with_reducible rfl)
            simp only [Act.put, List.setIfInBounds_toArray, List.set_cons_zero, List.set_cons_succ]
            refine take_at (i := 10) (some 106) (v := ?vg12) rfl rfl (by kernel_rfl) (by kernel_rfl) (by kernel_rfl) (fun _ _ _ h => h) (Or.inl ⟨by rfl, ?hg12⟩) ?rg12
            case hg12 => (intro w0; go_simp; try with_reducible rfl)
            simp only [Act.put, List.setIfInBounds_toArray, List.set_cons_zero, List.set_cons_succ]
            refine take_at (i := 11) (some 107) (v := ?vg13) rfl rfl (by kernel_rfl) (by kernel_rfl) (by kernel_rfl) (fun _ _ _ h => h) (Or.inl ⟨by rfl, ?hg13⟩) ?rg13
            case hg13 => (intro w0; go_simp; try with_reducible rfl)
            simp only [Act.put, List.setIfInBounds_toArray, List.set_cons_zero, List.set_cons_succ]
            refine take_at (i := 12) (some 108) (v := ?vg14) rfl rfl (by kernel_rfl) (by kernel_rfl) (by kernel_rfl) (fun _ _ _ h => h) (Or.inl ⟨by rfl, ?hg14⟩) ?rg14
            case hg14 => (intro w0; go_simp; try with_reducible rfl)
            simp only [Act.put, List.setIfInBounds_toArray, List.set_cons_zero, List.set_cons_succ]
            refine take_at (i := 13) (some 109) (v := ?vg15) rfl rfl (by kernel_rfl) (by kernel_rfl) (by kernel_rfl) (fun _ _ _ h => h) (Or.inl ⟨by rfl, ?hg15⟩) ?rg15
            case hg15 => (intro w0; go_simp; try with_reducible rfl)
            simp only [Act.put, List.setIfInBounds_toArray, List.set_cons_zero, List.set_cons_succ]
            refine wpAny_ready (rs := [14]) (by kernel_rfl) (by simp) ?_
            refine AllReady.cons (o := _) rfl (fun K hK => ?_) AllReady.nil
            go_simp
            refine hK _ _ ?_
            clear hK K
            refine wpAny_ready (rs := [15]) (by kernel_rfl) (by simp) ?_
            refine AllReady.cons (o := _) rfl (fun K hK => ?_) AllReady.nil
            go_simp
            refine (validate3 _ _ _ _).mono ?_
            rintro e w14 ⟨rfl, hb14⟩
            refine hK _ _ ?_
            clear hK K
            refine take_at (i := 16) (some 112) (v := ?vg18) rfl rfl (by kernel_rfl) (by kernel_rfl) (by kernel_rfl) (fun _ _ _ h => h) (Or.inl ⟨by rfl, ?hg18⟩) ?rg18
            case hg18 => (intro w0; go_simp; try with_reducible rfl)
            simp only [Act.put, List.setIfInBounds_toArray, List.set_cons_zero, List.set_cons_succ]
            refine take_at (i := 17) (some 113) (v := ?vg19) rfl rfl (by kernel_rfl) (by kernel_rfl) (by kernel_rfl) (fun _ _ _ h => h) (Or.inl ⟨by rfl, ?hg19⟩) ?rg19
            case hg19 => (intro w0; go_simp; try with_reducible rfl)
            simp only [Act.put, List.setIfInBounds_toArray, List.set_cons_zero, List.set_cons_succ]
            refine wpAny_done (by kernel_rfl) ?_ _
            go_wp2
            go_roundw
            case rel => exact ⟨j + 1, by omega, by go_num, b_call hBY (by (repeat (first | (with_reducible exact Below.refl _ _) | (with_reducible assumption) | (with_reducible refine b_drew ?_) | (with_reducible refine b_drewN ?_ _) | (with_reducible refine b_alloc ?_ _) | ((with_reducible refine b_set ?_ ?_ _); rotate_left; (focus (first | omega | (simp; done) | (simp; omega) | (simp at *; omega)))) | (with_reducible refine b_call ?_ (by with_reducible assumption)))))⟩
            case measure => simp [intOf]; omega
        · have d1 : decide ((j : Int) < 5) = false := decide_eq_false (by omega)
          go_wp2_with fail
          refine (lives_any _).mono ?_
          rintro e w7 ⟨rfl, hb7⟩
          go_wp2
          go_ret
          exact ⟨rfl, b_call X6.out.hb (by (repeat (first | (with_reducible exact Below.refl _ _) | (with_reducible assumption) | (with_reducible refine b_drew ?_) | (with_reducible refine b_drewN ?_ _) | (with_reducible refine b_alloc ?_ _) | ((with_reducible refine b_set ?_ ?_ _); rotate_left; (focus (first | omega | (simp; done) | (simp; omega) | (simp at *; omega)))) | (with_reducible refine b_call ?_ (by with_reducible assumption)))))⟩
end Go.Proofs.Ytojmkfhinkmhaaa
