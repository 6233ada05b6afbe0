/-
  WHAT IS PROVED HERE: the contract of the law's helper same: queue and reference agree at every tick. No condition but that both lie in memory as stated.
-/
import Derived.Test.YtdjmaljldajpiaaJaA
import Derived.Test.YtdjmaljldajpiaaIqK
import Derived.BigQuiet
namespace Go.Proofs.Ytdjmaljldajpiaa
set_option linter.unusedVariables false
open Go.ChangeShapes Go.WideShapes Go.ChangeAt Go.RowKit

set_option maxRecDepth 100000 in
set_option maxHeartbeats 4000000 in
theorem same_any (F : Nat → Prop) (p b : Nat) (g : Option Nat) (k wt nm : Nat) (AL : Option Addr) (cL : Nat) (AR : Option Addr) (cR : Nat) (AM : Option Addr) (cM : Nat) (L : List OneV) (t : Int) (s : QS) (w : World) (H : RQ w F k AL L AR AM s.2) (HI : Iqu w p b g k wt nm s.1 s.2) (hk : k ≤ 8) (hr : s.2.length ≤ 6000) :
    Calls Try.prog 18 #[.pointer (some ⟨p, 0, none⟩), .agg #[.int .i64 k, .int .i64 wt, .slice AL L.length cL, .slice AR s.2.length cR, .slice AM s.2.length cM], .int .i64 t] w fun e w' => e = .returned (.bool true) ∧ Below w.heap.size w w' := by
  have HH := Lib.hid H
  obtain ⟨nL, hnL⟩ : ∃ n, L.length = n := ⟨_, rfl⟩
  obtain ⟨n, hn⟩ : ∃ n, s.2.length = n := ⟨_, rfl⟩
  rw [hnL]
  by_cases hin : 0 ≤ t ∧ t < (n : Int)
  · obtain ⟨j, rfl⟩ : ∃ j : Nat, t = (j : Int) := ⟨t.toNat, by omega⟩
    have hjn : j < n := by omega
    have hjl : j < s.2.length := by omega
    obtain ⟨bR, oR, Ar, cr, hAR, hbR, hcR, hRr⟩ := H.openR hjl
    obtain ⟨bM, oM, Am, cm, hAM, hbM, hcM, hRm⟩ := H.openM hjl
    obtain ⟨I, hI⟩ : ∃ I, firstI k s.2[j] = I := ⟨_, rfl⟩
    obtain ⟨M, hM⟩ : ∃ M, firstB k s.2[j] = M := ⟨_, rfl⟩
    have HFX := Lib.hid (fun (W : World) (h : Iqu W p b g k wt nm s.1 s.2) => fixed_q p b g k wt nm s W j s.2[j] I M h (List.getElem?_eq_getElem hjl) hI hM hk hr)
    rw [hI] at hRr
    rw [hM] at hRm
    have HIq := Lib.hid HI
    have HRr := Lib.hid hRr
    have HRm := Lib.hid hRm
    have j1 : (0 : Int) ≤ (j : Int) ∧ (j : Int) < (n : Int) := by omega
    obtain ⟨j1, j2⟩ := j1
    have q1 : decide ((j : Int) < 0) = false := by simp
    have q2 : decide ((n : Int) ≤ (j : Int)) = false := by simp; omega
    have q2' : decide (n ≤ j) = false := by simp; omega
    rw [hn]
    subst hAR hAM
    clear H HI hI hM hRr hRm hn hnL hin hjl hr
    go_enter Try.func18, Try.ntmps18
    go_upto_region 1 with (fail)
    refine name_world ?_
    intro X hX
    obtain ⟨q, hq⟩ : ∃ q, w.heap.size = q := ⟨_, rfl⟩
    have VX := Lib.hid (show Vr X q 30 #[.int .i64 k, .int .i64 wt, .slice AL nL cL, .slice (some ⟨bR, oR, none⟩) n cR, .slice (some ⟨bM, oM, none⟩) n cM] from by rw [hX, ← hq]; exact Vr.new w _ _)
    have hBX := Lib.hid (show Below w.heap.size w X from by rw [hX]; (repeat (first | (with_reducible exact Below.refl _ _) | (with_reducible assumption) | (with_reducible refine b_drew ?_) | (with_reducible refine b_drewN ?_ _) | (with_reducible refine b_alloc ?_ _) | ((with_reducible refine b_set ?_ ?_ _); rotate_left; (focus (first | omega | (simp; done) | (simp; omega) | (simp at *; omega)))) | (with_reducible refine b_call ?_ (by with_reducible assumption)))))
    rw [hq]
    clear hX hq
    go_wp2_with fail
    refine (HFX.out X (HIq.out.below hBX.out)).mono ?_
    rintro e w2 ⟨A2, c2, A3, c3, rfl, o2, o3, hb2⟩
    have HB2 := Lib.hid (b_call hBX.out hb2)
    have V2 := VX.out.call hb2
    have R2 := Lib.hid (rd_own o2)
    have R3 := Lib.hid (rd_own o3)
    have z3 : w2.cell? ⟨q, 3, none⟩ = some (.slice (some ⟨bR, oR, none⟩) n cR) := V2.cell 3
    have z4 : w2.cell? ⟨q, 4, none⟩ = some (.slice (some ⟨bM, oM, none⟩) n cM) := V2.cell 4
    have zR := cell_keep HB2.out hcR
    have zM := cell_keep HB2.out hcM
    have V2h := Lib.hid V2
    have kk : ((k : Int) != (k : Int)) = false := bne_self_eq_false _
    clear V2 o2 o3 hb2 hcR hcM
    go_wp2_with fail
    refine (equal_any A2 Ar k c2 k cr I I w2 R2.out (HRr.out.call HB2.out).1 (by omega) (by omega)).mono ?_
    rintro e w3 ⟨rfl, hb3⟩
    have hII : decide (I = I) = true := decide_eq_true rfl
    rw [hII]
    have V3 := Lib.hid (V2h.out.call hb3)
    have HB3 := Lib.hid (b_call HB2.out hb3)
    have zM3 := Lib.hid (cell_keep hb3 zM)
    have R33 := Lib.hid (rd_step R3.out hb3)
    clear hII z3 z4 zR zM hb3 V2h
    go_wp2
    go_loopw [10] (fun s10 wr => ∃ i : Nat, i ≤ k ∧ s10 = .int .i64 i ∧ Hid (Below w3.heap.size w3 wr)) (fun s _ => k - (intOf s).toNat)
    case atStart => exact ⟨0, by omega, rfl, Lib.hid (Below.refl _ _)⟩
    case round =>
      obtain ⟨i, hi, rfl, HB⟩ := hrel
      by_cases hlt : i < k
      · have d1 : decide ((i : Int) < (k : Int)) = true := by simp; omega
        have d1' : decide (i < k) = true := by simp; omega
        have z4 : wr.cell? ⟨q, 4, none⟩ = some (.slice (some ⟨bM, oM, none⟩) n cM) := (V3.out.call HB.out).cell 4
        have zM := cell_keep HB.out zM3.out
        obtain ⟨b3, o3, l3, e3, hb3, c3'⟩ := (rd_step R33.out HB.out).openMap hlt
        obtain ⟨bm, om, lm, em, hbm, cm'⟩ := (rd_step (HRm.out.call HB3.out).1 HB.out).openMap hlt
        obtain ⟨y, hy⟩ : ∃ y, M[i] = y := ⟨_, rfl⟩
        rw [hy] at c3' cm'
        have q9 : (y != y) = false := bne_self_eq_false y
        subst e3 em
        clear hy l3 lm
        go_wp2_with fail
        go_quiet (fail)
        go_wp2
        go_roundw
        case rel => exact ⟨i + 1, by omega, by go_num, Lib.hid (below_drewN HB.out _)⟩
        case measure => simp [intOf]; omega
      · have d1 : decide ((i : Int) < (k : Int)) = false := by simp; omega
        have d1' : decide (i < k) = false := by simp; omega
        have hb := b_call HB3.out HB.out
        go_wp2
        go_ret
        exact ⟨rfl, hb⟩
  · have HFN := Lib.hid (fun (W : World) (h : Iqu W p b g k wt nm s.1 s.2) => fixed_no p b g k wt nm s.1 s.2 t W h (by omega))
    have HIq := Lib.hid HI
    rw [hn]
    by_cases hneg : t < 0
    · have q1 : decide (t < 0) = true := decide_eq_true hneg
      clear H HI hn hnL hin hneg hr
      go_enter Try.func18, Try.ntmps18
      go_upto_region 1 with (fail)
      refine name_world ?_
      intro X hX
      obtain ⟨q, hq⟩ : ∃ q, w.heap.size = q := ⟨_, rfl⟩
      have hBX := Lib.hid (show Below w.heap.size w X from by rw [hX]; (repeat (first | (with_reducible exact Below.refl _ _) | (with_reducible assumption) | (with_reducible refine b_drew ?_) | (with_reducible refine b_drewN ?_ _) | (with_reducible refine b_alloc ?_ _) | ((with_reducible refine b_set ?_ ?_ _); rotate_left; (focus (first | omega | (simp; done) | (simp; omega) | (simp at *; omega)))) | (with_reducible refine b_call ?_ (by with_reducible assumption)))))
      rw [hq]
      clear hX hq
      go_wp2_with fail
      refine (HFN.out X (HIq.out.below hBX.out)).mono ?_
      rintro e w_ ⟨rfl, rfl⟩
      go_wp2
      go_ret
      exact ⟨rfl, hBX.out⟩
    · have q1 : decide (t < 0) = false := decide_eq_false hneg
      have q2 : decide ((n : Int) ≤ t) = true := by simp; omega
      clear H HI hn hnL hin hneg hr
      go_enter Try.func18, Try.ntmps18
      go_upto_region 1 with (fail)
      refine name_world ?_
      intro X hX
      obtain ⟨q, hq⟩ : ∃ q, w.heap.size = q := ⟨_, rfl⟩
      have VX := Lib.hid (show Vr X q 30 #[.int .i64 k, .int .i64 wt, .slice AL nL cL, .slice AR n cR, .slice AM n cM] from by rw [hX, ← hq]; exact Vr.new w _ _)
      have hBX := Lib.hid (show Below w.heap.size w X from by rw [hX]; (repeat (first | (with_reducible exact Below.refl _ _) | (with_reducible assumption) | (with_reducible refine b_drew ?_) | (with_reducible refine b_drewN ?_ _) | (with_reducible refine b_alloc ?_ _) | ((with_reducible refine b_set ?_ ?_ _); rotate_left; (focus (first | omega | (simp; done) | (simp; omega) | (simp at *; omega)))) | (with_reducible refine b_call ?_ (by with_reducible assumption)))))
      rw [hq]
      clear hX hq
      go_wp2_with fail
      refine (HFN.out X (HIq.out.below hBX.out)).mono ?_
      rintro e w_ ⟨rfl, rfl⟩
      have z3 : X.cell? ⟨q, 3, none⟩ = some (.slice AR n cR) := VX.out.cell 3
      go_wp2
      go_ret
      exact ⟨rfl, hBX.out⟩
end Go.Proofs.Ytdjmaljldajpiaa
