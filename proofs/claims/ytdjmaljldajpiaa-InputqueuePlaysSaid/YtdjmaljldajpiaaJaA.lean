/-
  WHAT IS PROVED HERE: the contract of the reference's Advance, the walk. No condition but that the queue lies in memory as stated.
-/
import Derived.Test.YtdjmaljldajpiaaIqZ
import Derived.Test.YtdjmaljldajpiaaIqB
namespace Go.Proofs.Ytdjmaljldajpiaa
set_option linter.unusedVariables false
open Go.ChangeShapes Go.WideShapes Go.ChangeAt Go.RowKit

theorem vr_new2 (w : World) (o1 : Obj) (T : TypeId) (cs : Array Value) : Vr ((w.alloc o1).alloc (.cells cs T)) (w.heap.size + 1) T cs := by simpa using Vr.new (w.alloc o1) T cs
theorem own_typ {w : World} {b sz n : Nat} {e : TypeId} {v : Value} {xs : List Value} (h : w.ownsRow b e sz v n xs) {j : Nat} (hj : v.ownBlock = some j) : ∃ cur, w.heap[j]? = some (.cells cur e (0, 0)) := by
  rcases h.2 with ⟨he, _⟩ | ⟨i, cap, cur, he, hg, hh, _⟩
  · rw [he] at hj
    cases hj
  · rw [he] at hj
    injection hj with hj
    subst hj
    exact ⟨cur, hh⟩
theorem own_other {w w' : World} {b1 b2 sz1 sz2 n1 n2 : Nat} {e1 e2 : TypeId} {v1 v2 : Value} {xs1 xs2 : List Value} (h : w.ownsRow b1 e1 sz1 v1 n1 xs1) (k : w.ownsRow b2 e2 sz2 v2 n2 xs2) (he : e1 ≠ e2) (hg : w.grownBy w' v2.ownBlock) : w'.ownsRow b1 e1 sz1 v1 n1 xs1 :=
  own_same h fun j hj => hg.block j (h.lt j hj).2 fun e => by
    obtain ⟨c1, h1⟩ := own_typ h hj
    obtain ⟨c2, h2⟩ := own_typ k e.symm
    rw [h1] at h2
    injection h2 with h2
    injection h2 with _ h2 _
    exact he h2
theorem own_onlyF {w w' : World} {base g : Nat} {e : TypeId} {sz n : Nat} {v : Value} {xs : List Value} (h : w.ownsRow base e sz v n xs) (hO : Only (· = g) w w') (hg : ¬ v.ownBlock = some g) : w'.ownsRow base e sz v n xs :=
  own_same h fun j hj => hO.heap (h.lt j hj).2 fun e => hg (e ▸ hj)
set_option maxRecDepth 100000 in
set_option maxHeartbeats 20000000 in
theorem refadv_any (F : Nat → Prop) (k wt : Nat) (AL : Option Addr) (cL : Nat) (AR0 : Option Addr) (cR0 : Nat) (AM0 : Option Addr) (cM0 : Nat) (L : List OneV) (now : Int) (s s' : QS) (w : World) (H : RQ w F k AL L AR0 AM0 s.2) (hF : ∀ j, F j → j < w.heap.size) (hs : adv k wt now s = s') (hL : LPV s.2.length s.1 L)
    (hn : -1000000 ≤ now ∧ now ≤ 1000000) (hk : k ≤ 8) (hwt : wt ≤ 8) (hr : s.2.length ≤ 6000) (hLn : L.length ≤ 100000) :
    Calls Try.prog 13 #[.agg #[.int .i64 k, .int .i64 wt, .slice AL L.length cL, .slice AR0 s.2.length cR0, .slice AM0 s.2.length cM0], .int .i64 now] w (RetAdvR w F k wt AL cL L s'.2) := by
  have HH := Lib.hid H
  have HF0 := Lib.hid hF
  have HS := Lib.hid hs
  have HL := Lib.hid hL
  obtain ⟨hn1, hn2⟩ := hn
  obtain ⟨nL, hnL⟩ : ∃ n, L.length = n := ⟨_, rfl⟩
  obtain ⟨n0, hn0⟩ : ∃ n, s.2.length = n := ⟨_, rfl⟩
  have HNL := Lib.hid hnL
  have HN0 := Lib.hid hn0
  rw [hnL] at hLn
  rw [hn0] at hr
  rw [hnL, hn0]
  clear H hF hs hL hnL hn0
  go_enter Try.func13, Try.ntmps13
  go_upto_region 1 with (fail)
  refine name_world ?_
  intro X hX
  obtain ⟨q, hq⟩ : ∃ q, w.heap.size = q := ⟨_, rfl⟩
  have HQ := Lib.hid hq
  have VX := Lib.hid (show Vr X q 30 #[.int .i64 k, .int .i64 wt, .slice AL nL cL, .slice AR0 n0 cR0, .slice AM0 n0 cM0] from by rw [hX, ← hq]; exact (Vr.new w _ _).alloc _)
  have VR := Lib.hid (show Vr X (q + 1) 30 #[.int .i64 0, .int .i64 0, .slice none 0 0, .slice none 0 0, .slice none 0 0] from by rw [hX, ← hq]; exact vr_new2 w _ _ _)
  have hBX := Lib.hid (show Below w.heap.size w X from by rw [hX]; (repeat (first | (with_reducible exact Below.refl _ _) | (with_reducible assumption) | (with_reducible refine b_drew ?_) | (with_reducible refine b_drewN ?_ _) | (with_reducible refine b_alloc ?_ _) | ((with_reducible refine b_set ?_ ?_ _); rotate_left; (focus (first | omega | (simp; done) | (simp; omega) | (simp at *; omega)))) | (with_reducible refine b_call ?_ (by with_reducible assumption)))))
  have RX := Lib.hid (show RQ X (fun j => F j ∨ j = q ∨ j = q + 1) k AL L AR0 AM0 s.2 from (HH.out.weak (fun j hj h => by
    rcases h with h | h | h
    · exact h
    · omega
    · omega)).call hBX.out)
  have HF := Lib.hid (show ∀ j, F j ∨ j = q ∨ j = q + 1 → j < q + 2 from fun j h => by
    rcases h with h | h | h
    · have := HF0.out j h; omega
    · omega
    · omega)
  have x3 : X.cell? ⟨q, 3, none⟩ = some (.slice AR0 n0 cR0) := VX.out.cell 3
  rw [hq]
  clear hX hq HH
  go_upto_block 0 with (fail)
  clear x3
  go_wp2
  go_loopw [5] (fun s5 wr => ∃ (u : QS) (AR : Option Addr) (cR : Nat) (AM : Option Addr) (cM : Nat), u.2.length ≤ 6000 ∧ s5 = .int .i64 (u.2.length : Nat) ∧ Hid (RQ wr (fun j => F j ∨ j = q ∨ j = q + 1) k AL L AR AM u.2) ∧ Hid (Vr wr q 30 #[.int .i64 k, .int .i64 wt, .slice AL nL cL, .slice AR u.2.length cR, .slice AM u.2.length cM]) ∧ Hid (Vr wr (q + 1) 30 #[.int .i64 0, .int .i64 0, .slice none 0 0, .slice none 0 0, .slice none 0 0]) ∧ Hid (LPV u.2.length u.1 L) ∧ Hid (adv k wt now u = s') ∧ Hid (Below w.heap.size w wr)) (fun s _ => 6000 - (intOf s).toNat)
  case atStart => exact ⟨s, AR0, cR0, AM0, cM0, by rw [HN0.out]; exact hr, by rw [HN0.out], RX, by rw [HN0.out]; exact VX, VR, HL, HS, hBX⟩
  case round =>
    clear VX VR RX HS HL hr HN0 hBX
    obtain ⟨u, AR, cR, AM, cM, hu6, rfl, HR, HV, HV2, HLP, HA, HB⟩ := hrel
    obtain ⟨n, hnn⟩ : ∃ n, u.2.length = n := ⟨_, rfl⟩
    have HNN := Lib.hid hnn
    rw [hnn] at hu6 HV HLP ⊢
    obtain ⟨d, hd⟩ : ∃ d, (decide (n < 6000) && dueB k wt now u) = d := ⟨_, rfl⟩
    have HD := Lib.hid hd
    have z0 : wr.cell? ⟨q, 0, none⟩ = some (.int .i64 k) := HV.out.cell 0
    have z1 : wr.cell? ⟨q, 1, none⟩ = some (.int .i64 wt) := HV.out.cell 1
    have z2 : wr.cell? ⟨q, 2, none⟩ = some (.slice AL nL cL) := HV.out.cell 2
    have z3 : wr.cell? ⟨q, 3, none⟩ = some (.slice AR n cR) := HV.out.cell 3
    have z4 : wr.cell? ⟨q, 4, none⟩ = some (.slice AM n cM) := HV.out.cell 4
    clear hnn hd
    obtain ⟨wo, rfl⟩ : ∃ wo : World, wo = wr := ⟨_, rfl⟩
    go_upto_region 2 with (fail)
    go_cut [28] from 14 to 27 (fun s28 wx => s28 = .bool d ∧ Hid (Below wo.heap.size wo wx))
    case first =>
      by_cases c1 : n < 6000
      · have d1 : decide ((n : Int) < 6000) = true := by simp; omega
        have d1' : decide (n < 6000) = true := by simp; omega
        by_cases c2 : (n : Int) + wt ≤ now
        · have d2 : decide ((n : Int) + (wt : Int) ≤ now) = true := by simpa using c2
          have E1 := Lib.hid (show d = true from by
            rw [← HD.out]
            unfold dueB
            rw [HNN.out, d1', decide_eq_true c2]
            simp)
          clear c1 c2
          go_wp2
          go_meet
          case rel => exact ⟨by rw [E1.out], Lib.hid (Below.refl _ _)⟩
        · have d2 : decide ((n : Int) + (wt : Int) ≤ now) = false := by simpa using c2
          have E1 := Lib.hid (show compL k L (n : Int) = d from by
            rw [← HD.out]
            unfold dueB
            rw [HNN.out, d1', decide_eq_false c2, compL_eq HLP.out]
            simp)
          clear c1 c2
          go_wp2_with fail
          refine (refcomp_any k wt AL nL cL (.slice AR n cR) (.slice AM n cM) L (n : Int) wo (by have := HR.out.l.1; rw [HNL.out] at this; exact this) (by omega) (by omega) rfl rfl).mono ?_
          rintro e w3 ⟨rfl, hb3⟩
          have HB3 := Lib.hid hb3
          rw [E1.out]
          clear hb3
          rcases d with _ | _
          · go_wp2
            go_meet
            case rel => exact ⟨rfl, HB3⟩
          · go_wp2
            go_meet
            case rel => exact ⟨rfl, HB3⟩
      · have d1 : decide ((n : Int) < 6000) = false := by simp; omega
        have d1' : decide (n < 6000) = false := by simp; omega
        have E1 := Lib.hid (show d = false from by
          rw [← HD.out, d1']
          rfl)
        clear c1
        go_wp2
        go_meet
        case rel => exact ⟨by rw [E1.out], Lib.hid (Below.refl _ _)⟩
    case rest =>
      obtain ⟨rfl, HBc⟩ := hcut
      obtain ⟨Z, rfl⟩ : ∃ W : World, W = wc := ⟨_, rfl⟩
      have RZ := Lib.hid (HR.out.call HBc.out)
      have VZ := Lib.hid (HV.out.call HBc.out)
      have V2Z := Lib.hid (HV2.out.call HBc.out)
      have BZ := Lib.hid (b_call HB.out HBc.out)
      clear HR HV HV2 HB HBc z0 z1 z2 z3 z4
      rcases d with _ | _
      · -- out
        have E1 := Lib.hid (show u = s' from by
          have h := HD.out
          rw [Bool.and_eq_false_iff] at h
          rcases h with h | h
          · rw [← HA.out, adv_full (by rw [HNN.out]; simpa using h)]
          · rw [← HA.out, adv_stop h])
        have y0 : Z.cell? ⟨q, 0, none⟩ = some (.int .i64 k) := VZ.out.cell 0
        have y1 : Z.cell? ⟨q, 1, none⟩ = some (.int .i64 wt) := VZ.out.cell 1
        have y2 : Z.cell? ⟨q, 2, none⟩ = some (.slice AL nL cL) := VZ.out.cell 2
        have y3 : Z.cell? ⟨q, 3, none⟩ = some (.slice AR n cR) := VZ.out.cell 3
        have y4 : Z.cell? ⟨q, 4, none⟩ = some (.slice AM n cM) := VZ.out.cell 4
        obtain ⟨v1, v2, v3⟩ := V2Z.out.facts
        go_wp2
        refine name_post ?_
        intro Y hY
        obtain ⟨t1, t2, t3⟩ := (show Vr Y (q + 1) 30 #[.int .i64 k, .int .i64 wt, .slice AL nL cL, .slice AR n cR, .slice AM n cM] from by rw [hY]; exact vr_set5 V2Z.out _ _ _ _ _).facts
        have hO : Only (· = q + 1) Z Y := by rw [hY]; exact oq_set (oq_set (oq_set (oq_set (oq_set (Only.refl _ _) _ _) _ _) _ _) _ _) _ _
        have hBY := BZ.out.trans (hO.below (B := w.heap.size) BZ.out.size (fun j e => by have := HQ.out; omega))
        have RY := Lib.hid (RZ.out.only (hO.mono (fun j _ e => .inr (.inr e))))
        clear hY hO y0 y1 y2 y3 y4 v1 v2 v3
        refine bodyPost_ret (v := .agg #[.int .i64 k, .int .i64 wt, .slice AL nL cL, .slice AR n cR, .slice AM n cM]) (by simp [results, Try.results13, go_sem, t2]) rfl ⟨AR, cR, AM, cM, ?_, ?_, hBY⟩
        · rw [HNL.out, ← E1.out, HNN.out]
        · rw [← E1.out]
          exact RY.out.weak (fun j _ h => .inl h)
      · -- one more row
        have HD2 := Lib.hid (show n < 6000 ∧ dueB k wt now u = true from by
          have h := HD.out
          rw [Bool.and_eq_true, decide_eq_true_eq] at h
          exact h)
        have hn6 := HD2.out.1
        clear HD
        obtain ⟨f, hf⟩ : ∃ f, u.1 n = f := ⟨_, rfl⟩
        have HFi := Lib.hid (show ∀ p : Nat, f p = inL L (p : Nat) (n : Nat) from fun p => by rw [← hf]; exact HLP.out n p (Nat.le_refl _))
        have HFf := Lib.hid hf
        obtain ⟨last, hlast⟩ : ∃ r, lastRow u.2 = r := ⟨_, rfl⟩
        have HLast := Lib.hid hlast
        clear hf hlast
        go_wp2
        go_loopw [6, 7, 8] (fun s6 s7 s8 wr2 => ∃ (p : Nat) (A6 : Option Addr) (c6 : Nat) (A7 : Option Addr) (c7 : Nat), p ≤ k ∧ s8 = .int .i64 p ∧ s6 = .slice A6 p c6 ∧ s7 = .slice A7 p c7 ∧ Hid (wr2.ownsRow Z.heap.size 34 3 (.slice A6 p c6) p (flat (rowI k last f p))) ∧ Hid (wr2.ownsRow Z.heap.size 4 1 (.slice A7 p c7) p ((rowB k f p).map Value.bool)) ∧ Hid (Below Z.heap.size Z wr2)) (fun _ _ s _ => k - (intOf s).toNat)
        case atStart => exact ⟨0, none, 0, none, 0, by omega, rfl, rfl, rfl, Lib.hid (own_nil _ _ _ _), Lib.hid (own_nil _ _ _ _), Lib.hid (Below.refl _ _)⟩
        case round =>
          obtain ⟨p, A6, c6, A7, c7, hp, rfl, rfl, rfl, H6, H7, HBr⟩ := hrel
          have V := VZ.out.call HBr.out
          have y0 : wr.cell? ⟨q, 0, none⟩ = some (.int .i64 k) := V.cell 0
          have y1 : wr.cell? ⟨q, 1, none⟩ = some (.int .i64 wt) := V.cell 1
          have y2 : wr.cell? ⟨q, 2, none⟩ = some (.slice AL nL cL) := V.cell 2
          have y3 : wr.cell? ⟨q, 3, none⟩ = some (.slice AR n cR) := V.cell 3
          have y4 : wr.cell? ⟨q, 4, none⟩ = some (.slice AM n cM) := V.cell 4
          clear V
          by_cases hlt : p < k
          · have d1 : decide ((p : Int) < (k : Int)) = true := by simp; omega
            have d1' : decide (p < k) = true := by simp; omega
            go_wp2_with fail
            refine (find_any (k : Int) (wt : Int) AL nL cL (.slice AR n cR) (.slice AM n cM) L (p : Int) (n : Int) wr (by have := (RZ.out.call HBr.out).l.1; rw [HNL.out] at this; exact this) (by omega) rfl rfl).mono ?_
            rintro e w3 ⟨rfl, hb3⟩
            have H63 := Lib.hid (own_below H6.out hb3)
            have H73 := Lib.hid (own_below H7.out hb3)
            have HB3 := Lib.hid (b_call HBr.out hb3)
            have V3 := VZ.out.call HB3.out
            have t2 : w3.cell? ⟨q, 2, none⟩ = some (.slice AL nL cL) := V3.cell 2
            have t3 : w3.cell? ⟨q, 3, none⟩ = some (.slice AR n cR) := V3.cell 3
            have hs3 := HB3.out.size
            clear hb3 V3 H6 H7 HBr y0 y1 y2 y3 y4
            by_cases hfi : 0 ≤ findI L (p : Int) (n : Int)
            · obtain ⟨i, hi, e1, e2⟩ := inL_yes hfi
              obtain ⟨bL, oL, hl, hAL, hbL, g0, g1, g2, g3, g4⟩ := ((RZ.out.call HB3.out).l.1).openOne hi
              obtain ⟨⟨pl, tk, ⟨x, y, z⟩⟩, ho⟩ : ∃ o, L[i] = o := ⟨_, rfl⟩
              rw [ho] at e2 g2 g3 g4
              have HFx := Lib.hid (fixIn_yes (last := last) hlt (show f p = some (x, y, z) from by rw [HFi.out]; exact e2))
              rw [e1]
              have j1 : (0 : Int) ≤ (i : Int) ∧ (i : Int) < (nL : Int) := by rw [HNL.out] at hi; omega
              obtain ⟨j1, j2⟩ := j1
              have q1 : decide (0 ≤ (i : Int)) = true := by simp
              subst hAL
              simp only at g2 g3 g4
              clear e1 e2 ho hfi g0 g1 hl hi
              have OW := Lib.hid (own_below H63.out (b_alloc (Below.refl w3.heap.size w3) (.cells #[.int .i64 x, .int .i64 y, .int .i64 z] 34)))
              have OB := Lib.hid (own_below H73.out (b_alloc (Below.refl w3.heap.size w3) (.cells #[.int .i64 x, .int .i64 y, .int .i64 z] 34)))
              have RBl := Lib.hid (rd_lit w3 #[.int .i64 x, .int .i64 y, .int .i64 z] 34 (sz := 3) (m := 1) (xs := flat [(x, y, z)]) rfl (by rw [flat_one]))
              have HB4 := Lib.hid (b_alloc HB3.out (.cells #[.int .i64 x, .int .i64 y, .int .i64 z] 34))
              have hbase : Z.heap.size ≤ (w3.alloc (.cells #[.int .i64 x, .int .i64 y, .int .i64 z] 34)).heap.size := by simp; omega
              clear H63 H73
              go_upto_region 12 with (first | (refine wpList_build1 rfl (.tmp 49) slRow rfl (by omega) #[.int .i64 x, .int .i64 y, .int .i64 z] rfl rfl ?_) | (at_builtin; refine wpList_app _ rfl (.tmp 43) (.tmp 50) slRow rfl (v := .slice A6 p c6) rfl OW.out rfl RBl.out (flat_cell _) (p + 1) rfl (by unfold maxLen; omega) (by omega) hbase ?_; intro A8 c8 w5 r1 r2 r3 r4 r5))
              have H65 := Lib.hid (show w5.ownsRow Z.heap.size 34 3 (.slice A8 (p + 1) c8) (p + 1) (flat (rowI k last f (p + 1))) from by rw [rowI_snoc, HFx.out.1]; exact r3)
              have H75 := Lib.hid (own_other OB.out OW.out (of_decide_eq_false (by kernel_rfl)) r4)
              have HB5 := Lib.hid (below_app HB4.out OW.out r4 (Nat.le_refl _) hbase)
              have hs5 : Z.heap.size ≤ w5.heap.size := HB5.out.size
              clear r1 r2 r3 r4 r5 OW OB RBl HB4 hbase t2 t3 g2 g3 g4
              have OB := Lib.hid (own_below H75.out (b_alloc (Below.refl w5.heap.size w5) (.cells #[.bool false] 4)))
              go_wp2_with (at_builtin; refine wpList_app _ rfl (.tmp 52) (.tmp 53) slBools rfl (v := .slice A7 p c7) rfl OB.out rfl (rd_lit w5 _ _ rfl rfl) (by intro u hu; simp at hu; subst hu; rfl) (p + 1) rfl (by unfold maxLen; omega) (by omega) (by simp; omega) ?_; intro A9 c9 w6 r1 r2 r3 r4 r5)
              have H76 := Lib.hid (Lib.hid (show w6.ownsRow Z.heap.size 4 1 (.slice A9 (p + 1) c9) (p + 1) ((rowB k f (p + 1)).map Value.bool) from by rw [rowB_snoc, HFx.out.2]; exact r3))
              have H66 := Lib.hid (Lib.hid (own_other (own_below H65.out (b_alloc (Below.refl w5.heap.size w5) (.cells #[.bool false] 4))) OB.out (of_decide_eq_false (by kernel_rfl)) r4))
              have HB6 := Lib.hid (Lib.hid (below_app (b_alloc HB5.out _) OB.out r4 (Nat.le_refl _) (by simp; omega)))
              clear r1 r2 r3 r4 r5 OB H65 H75 HB5
              go_roundw
              case rel => first | exact ⟨p + 1, A8, c8, A9, c9, by omega, by go_num, rfl, rfl, H66.out, H76.out, HB6.out⟩ | ((repeat apply Exists.intro); exact ⟨⟨by omega, by go_num, rfl, rfl, H66.out, H76.out, HB6.out⟩, rfl⟩)
              case measure => simp [intOf]; omega
            · have HFx := Lib.hid (fixIn_no (last := last) hlt (show f p = none from by rw [HFi.out]; exact inL_no hfi))
              have q1 : decide (0 ≤ findI L (p : Int) (n : Int)) = false := by simpa using hfi
              clear hfi
              have VZ3 := Lib.hid (VZ.out.call HB3.out)
              have RZ3 := Lib.hid (RZ.out.call HB3.out)
              go_upto_if 57 with (fail)
              obtain ⟨bl, hbl⟩ : ∃ b, w3.heap.size = b := ⟨_, rfl⟩
              refine name_world ?_
              intro Y hY
              have VY := Lib.hid (show Vr Y bl 34 #[.int .i64 0, .int .i64 0, .int .i64 0] from by rw [hY, ← hbl]; exact Vr.new w3 _ _)
              have BY := Lib.hid (show Below w3.heap.size w3 Y from by rw [hY]; (repeat (first | (with_reducible exact Below.refl _ _) | (with_reducible assumption) | (with_reducible refine b_drew ?_) | (with_reducible refine b_drewN ?_ _) | (with_reducible refine b_alloc ?_ _) | ((with_reducible refine b_set ?_ ?_ _); rotate_left; (focus (first | omega | (simp; done) | (simp; omega) | (simp at *; omega)))) | (with_reducible refine b_call ?_ (by with_reducible assumption)))))
              have HBL := Lib.hid hbl
              rw [hbl]
              obtain ⟨⟨a, b, c⟩, hlp⟩ : ∃ x, last.1 p = x := ⟨_, rfl⟩
              rw [hlp] at HFx
              have HLP2 := Lib.hid hlp
              clear hY hbl hlp t2 t3
              go_cut [] from 57 to 66 (fun wx => Hid (Vr wx bl 34 #[.int .i64 a, .int .i64 b, .int .i64 c]) ∧ Hid (Below w3.heap.size w3 wx))
              case first =>
                by_cases h0 : n = 0
                · have e0 : decide (0 < (n : Int)) = false := by simp; omega
                  have e0' : decide (0 < n) = false := by simp; omega
                  have EV := Lib.hid (show Vr Y bl 34 #[.int .i64 a, .int .i64 b, .int .i64 c] from by
                    have h1 : u.2 = [] := List.length_eq_zero_iff.1 (by rw [HNN.out]; exact h0)
                    have h2 : last = zrow := by rw [← HLast.out, h1]; rfl
                    have h3 := HLP2.out
                    rw [h2] at h3
                    have h4 : ((0 : Int), (0 : Int), (0 : Int)) = (a, b, c) := h3
                    injection h4 with h4 h5
                    injection h5 with h5 h6
                    rw [← h4, ← h5, ← h6]
                    exact VY.out)
                  have e1 : ¬ 0 < n := by omega
                  have e2 : ¬ (0 : Int) < (n : Int) := by omega
                  clear h0
                  go_wp2
                  go_meet
                  case rel => exact ⟨EV, BY⟩
                · have e0 : decide (0 < (n : Int)) = true := by simp; omega
                  have e0' : decide (0 < n) = true := by simp; omega
                  have e1 : 0 < n := by omega
                  have e2 : (0 : Int) < (n : Int) := by omega
                  obtain ⟨m, hm⟩ : ∃ m, n = m + 1 := ⟨n - 1, by omega⟩
                  have RY := RZ3.out.call BY.out
                  obtain ⟨hmu, hlr⟩ := lastRow_at (show u.2.length = m + 1 from by rw [HNN.out]; exact hm)
                  obtain ⟨bR, oR, Ap, cp, hAR, hbR, hcR, hRp⟩ := RY.openR (t := m) hmu
                  rw [← hlr, HLast.out] at hRp
                  obtain ⟨bp, op, hl, hAp, hbp, i0, i1, i2⟩ := hRp.1.openRow hlt
                  have hfp : (firstI k last)[p] = (a, b, c) := by rw [← HLP2.out]; simp [firstI]
                  rw [hfp] at i0 i1 i2
                  simp only at i0 i1 i2
                  have t3 : Y.cell? ⟨q, 3, none⟩ = some (.slice AR n cR) := (VZ3.out.call BY.out).cell 3
                  have em : IntKind.i64.wrap ((n : Int) - 1) = (m : Int) := by rw [show (n : Int) - 1 = (m : Int) from by omega]; exact IntWalk.i64_in _ (by omega)
                  have em2 : (n : Int) - 1 = (m : Int) := by omega
                  have j1 : (m : Int) < (n : Int) := by omega
                  have j2 : (p : Int) < (k : Int) := by omega
                  have vl := VY.out.lt
                  have vf := VY.out.frozen
                  have vc := VY.out.cell
                  subst hAR hAp
                  have VS := Lib.hid (show Vr (((Y.setCell ⟨bl, 0, none⟩ (.int .i64 a)).setCell ⟨bl, 1, none⟩ (.int .i64 b)).setCell ⟨bl, 2, none⟩ (.int .i64 c)) bl 34 #[.int .i64 a, .int .i64 b, .int .i64 c] from by simpa using (((VY.out.set 0 (.int .i64 a)).set 1 (.int .i64 b)).set 2 (.int .i64 c)))
                  have hbl3 : w3.heap.size ≤ bl := by have := HBL.out; omega
                  have BS := Lib.hid (((BY.out.setCell (p := ⟨bl, 0, none⟩) hbl3 (.int .i64 a)).setCell (p := ⟨bl, 1, none⟩) hbl3 (.int .i64 b)).setCell (p := ⟨bl, 2, none⟩) hbl3 (.int .i64 c))
                  clear hm h0 hlr hfp hl RY hRp hmu hbl3
                  go_wp2
                  go_meet
                  case rel => exact ⟨VS, BS⟩
              case rest =>
                obtain ⟨HVl, HBl⟩ := hcut
                obtain ⟨Y2, rfl⟩ : ∃ W : World, W = wc := ⟨_, rfl⟩
                have i0 : Y2.cell? ⟨bl, 0, none⟩ = some (.int .i64 a) := HVl.out.cell 0
                have i1 : Y2.cell? ⟨bl, 1, none⟩ = some (.int .i64 b) := HVl.out.cell 1
                have i2 : Y2.cell? ⟨bl, 2, none⟩ = some (.int .i64 c) := HVl.out.cell 2
                have H64 := Lib.hid (own_below H63.out HBl.out)
                have H74 := Lib.hid (own_below H73.out HBl.out)
                have HB4 := Lib.hid (b_call HB3.out HBl.out)
                clear VY BY H63 H73 HB3 HVl HBl VZ3 RZ3
                go_wp2_with fail
                refine (refpredict3 a b c _).mono ?_
                rintro e w4 ⟨rfl, hb4⟩
                have hs4 := (b_call HB4.out hb4).size
                have OW := Lib.hid (own_below (own_below H64.out hb4) (b_alloc (Below.refl w4.heap.size w4) (.cells #[.int .i64 a, .int .i64 b, .int .i64 0] 34)))
                have OB := Lib.hid (own_below (own_below H74.out hb4) (b_alloc (Below.refl w4.heap.size w4) (.cells #[.int .i64 a, .int .i64 b, .int .i64 0] 34)))
                have RBl := Lib.hid (rd_lit w4 #[.int .i64 a, .int .i64 b, .int .i64 0] 34 (sz := 3) (m := 1) (xs := flat [(a, b, 0)]) rfl (by rw [flat_one]))
                have HB5 := Lib.hid (b_alloc (b_call HB4.out hb4) (.cells #[.int .i64 a, .int .i64 b, .int .i64 0] 34))
                have hbase : Z.heap.size ≤ (w4.alloc (.cells #[.int .i64 a, .int .i64 b, .int .i64 0] 34)).heap.size := by simp; omega
                clear H64 H74 HB4 hb4 i0 i1 i2
                go_upto_region 17 with (first | (refine wpList_build1 rfl (.tmp 69) slRow rfl (by omega) #[.int .i64 a, .int .i64 b, .int .i64 0] rfl rfl ?_) | (at_builtin; refine wpList_app _ rfl (.tmp 67) (.tmp 70) slRow rfl (v := .slice A6 p c6) rfl OW.out rfl RBl.out (flat_cell _) (p + 1) rfl (by unfold maxLen; omega) (by omega) hbase ?_; intro A8 c8 w5 r1 r2 r3 r4 r5))
                have H65 := Lib.hid (show w5.ownsRow Z.heap.size 34 3 (.slice A8 (p + 1) c8) (p + 1) (flat (rowI k last f (p + 1))) from by rw [rowI_snoc, HFx.out.1]; exact r3)
                have H75 := Lib.hid (own_other OB.out OW.out (of_decide_eq_false (by kernel_rfl)) r4)
                have HB6 := Lib.hid (below_app HB5.out OW.out r4 (Nat.le_refl _) hbase)
                have hs5 : Z.heap.size ≤ w5.heap.size := HB6.out.size
                clear r1 r2 r3 r4 r5 OW OB RBl HB5 hbase
                have OB := Lib.hid (own_below H75.out (b_alloc (Below.refl w5.heap.size w5) (.cells #[.bool true] 4)))
                go_wp2_with (at_builtin; refine wpList_app _ rfl (.tmp 72) (.tmp 73) slBools rfl (v := .slice A7 p c7) rfl OB.out rfl (rd_lit w5 _ _ rfl rfl) (by intro u hu; simp at hu; subst hu; rfl) (p + 1) rfl (by unfold maxLen; omega) (by omega) (by simp; omega) ?_; intro A9 c9 w6 r1 r2 r3 r4 r5)
                have H76 := Lib.hid (Lib.hid (show w6.ownsRow Z.heap.size 4 1 (.slice A9 (p + 1) c9) (p + 1) ((rowB k f (p + 1)).map Value.bool) from by rw [rowB_snoc, HFx.out.2]; exact r3))
                have H66 := Lib.hid (Lib.hid (own_other (own_below H65.out (b_alloc (Below.refl w5.heap.size w5) (.cells #[.bool true] 4))) OB.out (of_decide_eq_false (by kernel_rfl)) r4))
                have HB7 := Lib.hid (Lib.hid (below_app (b_alloc HB6.out _) OB.out r4 (Nat.le_refl _) (by simp; omega)))
                clear r1 r2 r3 r4 r5 OB H65 H75 HB6
                go_roundw
                case rel => first | exact ⟨p + 1, A8, c8, A9, c9, by omega, by go_num, rfl, rfl, H66.out, H76.out, HB7.out⟩ | ((repeat apply Exists.intro); exact ⟨⟨by omega, by go_num, rfl, rfl, H66.out, H76.out, HB7.out⟩, rfl⟩)
                case measure => simp [intOf]; omega
          · have d1 : decide ((p : Int) < (k : Int)) = false := by simp; omega
            have d1' : decide (p < k) = false := by simp; omega
            have hpk : p = k := by omega
            rw [hpk] at H6 H7 d1 d1' ⊢
            clear hlt hp hpk
            have hsZ := HBr.out.size
            have hqZ : q + 2 ≤ Z.heap.size := by have := V2Z.out.lt; omega
            have HFZ := Lib.hid (show ∀ j, F j ∨ j = q ∨ j = q + 1 → j < Z.heap.size from fun j h => by have := HF.out j h; omega)
            have HFW := Lib.hid (show ∀ j, F j ∨ j = q ∨ j = q + 1 → j < wr.heap.size from fun j h => by have := HF.out j h; omega)
            have RW := Lib.hid (RZ.out.call HBr.out)
            have VW := Lib.hid (VZ.out.call HBr.out)
            have V2W := Lib.hid (V2Z.out.call HBr.out)
            have BW := Lib.hid (BZ.out.trans (HBr.out.mono (by have := BZ.out.size; omega)))
            have hqw := VW.out.lt
            obtain ⟨hd, e1, e2, e3, e4⟩ := RW.out.r.ex
            rw [HNN.out] at e1 e2 e3
            have HE1 := Lib.hid e1
            have HE2 := Lib.hid e2
            have HE4 := Lib.hid e4
            have RH := Lib.hid (show Rd (wr.alloc (.cells #[] 49)) (wr.alloc (.cells #[] 49)).heap.size 1 AR n (hd.map fun h => Value.slice h.1 k h.2) from rd_step e3.1 (b_alloc (Below.refl _ _) _))
            have OE := Lib.hid (own_shut (base := wr.heap.size) (sz := 1) (N := 0) (c := 0) (xs := []) (Nat.le_refl _) (Vr.new wr 49 #[]) (by simp) (by simp) (Nat.le_refl _) (by simp [maxLen]) (by simp))
            clear e1 e2 e3 e4 RZ VZ V2Z BZ HBr
            go_upto_region 19 with (first | (at_builtin; refine wpList_app _ rfl (.tmp 75) (.tmp 77) slRowsI rfl (v := .slice (some ⟨wr.heap.size, 0, none⟩) 0 0) rfl OE.out rfl RH.out (slices_one k hd) n (Nat.zero_add _) (by unfold maxLen; omega) (by omega) (by simp) ?_; intro A8 c8 w5 r1 r2 r3 r4 r5; have HB5 := Lib.hid (below_app (b_alloc (Below.refl wr.heap.size wr) _) OE.out r4 (Nat.le_refl _) (by simp)); have O5 := Lib.hid r3; have hs5 := HB5.out.size; have y35 := cell_keep HB5.out y3; have vq := (VW.out.call HB5.out).frozen; have vl := (VW.out.call HB5.out).lt; clear r1 r2 r3 r4 r5) | (at_builtin; refine wpList_app _ rfl (.tmp 78) (.tmp 80) slRowsI rfl (v := .slice A8 n c8) rfl (own_below O5.out (b_alloc (Below.refl w5.heap.size w5) (.cells #[.slice A6 k c6] 49))) rfl (rd_lit w5 _ _ rfl rfl) (by intro u hu; simp at hu; subst hu; rfl) (n + 1) rfl (by unfold maxLen; omega) (by omega) (by simp; omega) ?_; intro A10 c10 w7 r1 r2 r3 r4 r5; have HB7 := Lib.hid (below_app (b_alloc HB5.out _) (own_below O5.out (b_alloc (Below.refl w5.heap.size w5) (.cells #[.slice A6 k c6] 49))) r4 (Nat.le_refl _) (by simp; omega)); have O7 := Lib.hid r3; have hs7 := HB7.out.size; have y37 := cell_keep HB7.out y3; have vq := (VW.out.call HB7.out).frozen; have vl := (VW.out.call HB7.out).lt; clear r1 r2 r3 r4 r5))
            refine name_world ?_
            intro Y hY
            have OY : Only (· = q) w7 Y := by rw [hY]; exact oq_set (Only.refl _ _) _ _
            have RY := Lib.hid ((RW.out.call HB7.out).only (OY.mono fun j _ e => .inr (.inl e)))
            have VY := Lib.hid (show Vr Y q 30 #[.int .i64 k, .int .i64 wt, .slice AL nL cL, .slice A10 (n + 1) c10, .slice AM n cM] from by rw [hY]; simpa using (VW.out.call HB7.out).set 3 (.slice A10 (n + 1) c10))
            have V2Y := Lib.hid ((V2W.out.call HB7.out).only OY (by omega))
            have BY := Lib.hid (show Below w.heap.size w Y from (b_call BW.out HB7.out).trans (OY.below (B := w.heap.size) (b_call BW.out HB7.out).size (fun j e => by have := HQ.out; omega)))
            have HI := Lib.hid (RdF.of_own (own_below H6.out HB7.out) HFZ.out)
            have RI := Lib.hid ((RowsF.snoc (Ar := A6) (cr := c6) (xs := flat (rowI k last f k)) HE1.out HE2.out (fun t a b => (HE4.out t a b).call HB7.out) HI.out O7.out HFW.out).only (OY.mono fun j _ e => .inr (.inl e)))
            have H7Y := Lib.hid (own_onlyF (own_below H7.out HB7.out) OY (fun e => by have := (H7.out.lt _ e).1; omega))
            have hsY : Z.heap.size ≤ Y.heap.size := by have := OY.size; omega
            have HFY := Lib.hid (show ∀ j, F j ∨ j = q ∨ j = q + 1 → j < Y.heap.size from fun j h => by have := HF.out j h; omega)
            clear hY OY HB7 O7 HI HE1 HE2 HE4 OE RH VW V2W BW RW hs7 y3 y35 y37 vq vl H6 H7 HB5 O5 hs5 y0 y1 y2 y4 hqw HFW
            have t4 : Y.cell? ⟨q, 4, none⟩ = some (.slice AM n cM) := VY.out.cell 4
            have hqw := VY.out.lt
            obtain ⟨hd2, e1, e2, e3, e4⟩ := RY.out.m.ex
            rw [HNN.out] at e1 e2 e3
            have HE1 := Lib.hid e1
            have HE2 := Lib.hid e2
            have HE4 := Lib.hid e4
            have RH := Lib.hid (show Rd (Y.alloc (.cells #[] 50)) (Y.alloc (.cells #[] 50)).heap.size 1 AM n (hd2.map fun h => Value.slice h.1 k h.2) from rd_step e3.1 (b_alloc (Below.refl _ _) _))
            have OE := Lib.hid (own_shut (base := Y.heap.size) (sz := 1) (N := 0) (c := 0) (xs := []) (Nat.le_refl _) (Vr.new Y 50 #[]) (by simp) (by simp) (Nat.le_refl _) (by simp [maxLen]) (by simp))
            clear e1 e2 e3 e4
            go_wp2_with (first | (at_builtin; refine wpList_app _ rfl (.tmp 83) (.tmp 85) slRowsB rfl (v := .slice (some ⟨Y.heap.size, 0, none⟩) 0 0) rfl OE.out rfl RH.out (slices_one k hd2) n (Nat.zero_add _) (by unfold maxLen; omega) (by omega) (by simp) ?_; intro A8 c8 w5 r1 r2 r3 r4 r5; have HB5 := Lib.hid (below_app (b_alloc (Below.refl Y.heap.size Y) _) OE.out r4 (Nat.le_refl _) (by simp)); have O5 := Lib.hid r3; have hs5 := HB5.out.size; have y35 := cell_keep HB5.out t4; have vq := (VY.out.call HB5.out).frozen; have vl := (VY.out.call HB5.out).lt; clear r1 r2 r3 r4 r5) | (at_builtin; refine wpList_app _ rfl (.tmp 86) (.tmp 88) slRowsB rfl (v := .slice A8 n c8) rfl (own_below O5.out (b_alloc (Below.refl w5.heap.size w5) (.cells #[.slice A7 k c7] 50))) rfl (rd_lit w5 _ _ rfl rfl) (by intro u hu; simp at hu; subst hu; rfl) (n + 1) rfl (by unfold maxLen; omega) (by omega) (by simp; omega) ?_; intro A11 c11 w8 r1 r2 r3 r4 r5; have HB8 := Lib.hid (below_app (b_alloc HB5.out _) (own_below O5.out (b_alloc (Below.refl w5.heap.size w5) (.cells #[.slice A7 k c7] 50))) r4 (Nat.le_refl _) (by simp; omega)); have O8 := Lib.hid r3; have hs8 := HB8.out.size; have y38 := cell_keep HB8.out t4; have vq := (VY.out.call HB8.out).frozen; have vl := (VY.out.call HB8.out).lt; clear r1 r2 r3 r4 r5))
            have OT : Only (· = q) w8 (w8.setCell ⟨q, 4, none⟩ (.slice A11 (n + 1) c11)) := oq_set (Only.refl _ _) _ _
            have RT := (RY.out.call HB8.out).only (OT.mono fun j _ e => .inr (.inl e))
            have VT := Lib.hid (show Vr (w8.setCell ⟨q, 4, none⟩ (.slice A11 (n + 1) c11)) q 30 #[.int .i64 k, .int .i64 wt, .slice AL nL cL, .slice A10 (n + 1) c10, .slice A11 (n + 1) c11] from by simpa using (VY.out.call HB8.out).set 4 (.slice A11 (n + 1) c11))
            have V2T := Lib.hid (Lib.hid ((V2Y.out.call HB8.out).only OT (by omega)))
            have BT := Lib.hid (Lib.hid ((b_call BY.out HB8.out).trans (OT.below (B := w.heap.size) (b_call BY.out HB8.out).size (fun j e => by have := HQ.out; omega))))
            have HI := Lib.hid (RdF.of_own (own_below H7Y.out HB8.out) HFZ.out)
            have MT := (RowsF.snoc (Ar := A7) (cr := c7) (xs := (rowB k f k).map Value.bool) HE1.out HE2.out (fun t a b => (HE4.out t a b).call HB8.out) HI.out O8.out HFY.out).only (OT.mono fun j _ e => .inr (.inl e))
            have IT := (RI.out.call HB8.out).only (OT.mono fun j _ e => .inr (.inl e))
            have hlen : (stepQ k u).2.length = n + 1 := by rw [stepQ_len, HNN.out]
            have RQT := Lib.hid (Lib.hid (show RQ (w8.setCell ⟨q, 4, none⟩ (.slice A11 (n + 1) c11)) (fun j => F j ∨ j = q ∨ j = q + 1) k AL L A10 A11 (stepQ k u).2 from by
              have hrow : (stepQ k u).2 = u.2 ++ [fixRow k last f] := by
                unfold stepQ
                rw [HLast.out, HNN.out, HFf.out]
              refine ⟨RT.l, ?_, ?_⟩
              · rw [hlen, hrow, List.map_append]
                exact IT
              · rw [hlen, hrow, List.map_append]
                exact MT))
            have VT2 := Lib.hid (Lib.hid (show Vr (w8.setCell ⟨q, 4, none⟩ (.slice A11 (n + 1) c11)) q 30 #[.int .i64 k, .int .i64 wt, .slice AL nL cL, .slice A10 (stepQ k u).2.length c10, .slice A11 (stepQ k u).2.length c11] from by rw [hlen]; exact VT.out))
            have HLT := Lib.hid (Lib.hid (lpv_step (k := k) (s := u) (by rw [HNN.out]; exact HLP.out)))
            have HAT := Lib.hid (Lib.hid (show adv k wt now (stepQ k u) = s' from by rw [← HA.out]; exact (adv_step (by rw [HNN.out]; omega) HD2.out.2).symm))
            have HLEN := Lib.hid hlen
            clear hlen OT RT VT IT MT HI HE1 HE2 HE4 OE RH VY V2Y BY RY hs8 y35 y38 vq vl HB8 O8 HB5 O5 hs5 RI H7Y HFY
            go_roundw
            case rel => exact ⟨stepQ k u, A10, c10, A11, c11, by rw [HLEN.out]; omega, by rw [HLEN.out]; go_num, RQT.out, VT2.out, V2T.out, HLT.out, HAT.out, BT.out⟩
            case measure => simp [intOf]; omega
end Go.Proofs.Ytdjmaljldajpiaa
