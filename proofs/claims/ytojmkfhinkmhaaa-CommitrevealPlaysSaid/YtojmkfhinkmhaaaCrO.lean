/-
  WHAT IS PROVED HERE: the walk of the law CommitrevealAlone: it returns true at every input and leaves old memory as it was.
-/
import Derived.Test.YtojmkfhinkmhaaaCrN
import Derived.Test.YtojmkfhinkmhaaaCrK
import Derived.Test.YtojmkfhinkmhaaaHlpHas
import Derived.Test.YtojmkfhinkmhaaaHlpInp
namespace Go.Proofs.Ytojmkfhinkmhaaa
set_option linter.unusedVariables false
open Go.ChangeShapes Go.WideShapes Go.ChangeAt Go.RowKit

theorem has_q (A : Option Addr) (n c : Nat) (l : List Int) (x : Int) (b : Bool) (w : World) (hb : decide (x ∈ l) = b) (hn : n ≤ 1000000000000) (rd : Rd w w.heap.size 1 A n (l.map (Value.int .i64))) :
    Calls Try.prog 24 #[.slice A n c, .int .i64 x] w fun e w' => e = .returned (.bool b) ∧ w = w' := by
  subst hb
  exact has_any A n c l x w hn rd
/-- Two rounds, apart. -/
structure Cx2 (w0 w : World) (p q : Nat) (r s : RdV) : Prop where
  cr : Cr w p r
  cs : Cr w q s
  hp : w0.heap.size ≤ p
  hq : w0.heap.size ≤ q
  ne : p ≠ q
  hb : Below w0.heap.size w0 w
theorem Cx2.turn1 {w0 w w' : World} {p q : Nat} {r s r' : RdV} (h : Cx2 w0 w p q r s) (hc : Cr w' p r') (hO : Only (· = p) w w') : Cx2 w0 w' p q r' s := ⟨hc, Vr.only h.cs hO (Ne.symm h.ne), h.hp, h.hq, h.ne, below_cr h.hb h.hp hO⟩
theorem Cx2.turn2 {w0 w w' : World} {p q : Nat} {r s s' : RdV} (h : Cx2 w0 w p q r s) (hc : Cr w' q s') (hO : Only (· = q) w w') : Cx2 w0 w' p q r s' := ⟨Vr.only h.cr hO h.ne, hc, h.hp, h.hq, h.ne, below_cr h.hb h.hq hO⟩
theorem Cx2.call {w0 w w' : World} {p q : Nat} {r s : RdV} (h : Cx2 w0 w p q r s) (hb : Below w.heap.size w w') : Cx2 w0 w' p q r s := ⟨h.cr.call hb, h.cs.call hb, h.hp, h.hq, h.ne, b_call h.hb hb⟩
theorem own_turn {w w' : World} {base g : Nat} {e : TypeId} {sz n : Nat} {v : Value} {xs : List Value} (h : w.ownsRow base e sz v n xs) (hO : Only (· = g) w w') (hg : g < base) : w'.ownsRow base e sz v n xs :=
  own_only h hO (fun e => by have := (h.lt _ e).1; omega)
theorem new4k : (newR 4 11).k = 4 := rfl
theorem rel_new (q : Nat) : Rel q (newR 4 11) (newR 4 11) := ⟨rfl, rfl, rfl, rfl⟩
theorem alone_ok {q : Nat} {r s : RdV} (h : Rel q r s) (T : Int) {a : ActV} (ha : a.d = 2 ∨ a.p = q) (hG : ActG a) {E : Int} (hE : dsE r T a = E) : dsE s T a = E := (same_ds h T ha hG).1 ▸ hE
set_option maxRecDepth 100000 in
set_option maxHeartbeats 4000000 in
theorem alone_walk (A1 : Option Addr) (n1 c1 : Nat) (l1 : List Int) (pl : Int) (A2 : Option Addr) (n2 c2 : Nat) (l2 : List Int) (w : World) (rd1 : Rd w w.heap.size 1 A1 n1 (l1.map (Value.int .i64))) (wf1 : ∀ x ∈ l1, -9223372036854775808 ≤ x ∧ x ≤ 9223372036854775807) (hn1 : n1 ≤ 9223372036854775807)
    (hpl : -9223372036854775808 ≤ pl ∧ pl ≤ 9223372036854775807) (rd2 : Rd w w.heap.size 1 A2 n2 (l2.map (Value.int .i64))) (wf2 : ∀ x ∈ l2, -9223372036854775808 ≤ x ∧ x ≤ 9223372036854775807) (hn2 : n2 ≤ 9223372036854775807) :
    Calls Try.prog 6 #[.slice A1 n1 c1, .int .i64 pl, .slice A2 n2 c2] w fun e w' => e = .returned (.bool true) ∧ Below w.heap.size w w' := by
  have R1 := Lib.hid rd1
  have R2 := Lib.hid rd2
  have W1 := Lib.hid wf1
  have W2 := Lib.hid wf2
  obtain ⟨p1, p2⟩ := hpl
  have hqb := around_bd pl 4 (by omega)
  obtain ⟨q, hq, hq4⟩ : ∃ q : Nat, around pl 4 = q ∧ q < 4 := ⟨(around pl 4).toNat, by omega, by omega⟩
  have HQ := Lib.hid hq
  clear rd1 rd2 wf1 wf2 hq hqb
  go_enter Try.func6, Try.ntmps6
  go_wp2_with fail
  refine (around_any pl 4 _ p1 p2 (by omega) (by omega)).mono ?_
  rintro e w_ ⟨rfl, rfl⟩
  rw [HQ.out]
  clear HQ p1 p2
  go_wp2_with fail
  refine (crnew_q 4 11 _ (by omega)).mono ?_
  rintro e w1 ⟨g, rfl, hg, hC1, hb1⟩
  have H1 := Lib.hid hC1
  clear hC1
  go_wp2_with fail
  refine (crnew_q 4 11 _ (by omega)).mono ?_
  rintro e w2 ⟨k, rfl, hk, hC2, hb2⟩
  have hgl := H1.out.facts.2.2.2.1
  have X2 := Lib.hid (Cx2.mk (w0 := w) (H1.out.call hb2) hC2 hg (by have := hb1.size; omega) (by omega) (b_call hb1 hb2))
  clear hC2 hb2 H1 hb1 hk hg hgl
  go_wp2_with fail
  refine (acts_any A1 n1 c1 l1 _ (rd_step R1.out X2.out.hb) W1.out hn1).mono ?_
  rintro e w3 ⟨L, A3, c3, rfl, hL24, hG, hown, hb3⟩
  have X3 := Lib.hid (X2.out.call hb3)
  have O3 := Lib.hid hown
  have HG := Lib.hid hG
  have hg3 := X2.out.cr.facts.2.2.2.1
  have hk3 := X2.out.cs.facts.2.2.2.1
  obtain ⟨B, hB⟩ : ∃ B, w2.heap.size = B := ⟨_, rfl⟩
  rw [hB] at O3 hg3 hk3
  clear hown hG hb3 X2 hB R1 W1
  go_wp2
  go_loopw [11] (fun s11 wr => ∃ (i : Nat) (r s : RdV), i ≤ L.length ∧ s11 = .int .i64 i ∧ Hid (Cx2 w wr g k r s) ∧ Hid (Rel q r s) ∧ Hid (r.k = 4) ∧ Hid (wr.ownsRow B 49 6 (.slice A3 L.length c3) L.length (actsC L))) (fun s11 _ => L.length - (intOf s11).toNat)
  case atStart => exact ⟨0, _, _, by omega, rfl, X3, Lib.hid (rel_new q), new4k, O3⟩
  case round =>
    obtain ⟨i, r, s, hi, rfl, HX, HR, HK, HO⟩ := hrel
    by_cases hlt : i < L.length
    · have d1 : decide (i < L.length) = true := decide_eq_true hlt
      obtain ⟨b0, o0, hl, rfl, hb0, y0, y1, y2, y3, y4, y5⟩ := (rd_own HO.out).openAct hlt
      have hGa := HG.out _ (List.getElem_mem hl)
      obtain ⟨⟨d, pp, ⟨xa, xb, xc⟩, nn⟩, hx⟩ : ∃ x, L[i] = x := ⟨_, rfl⟩
      rw [hx] at y0 y1 y2 y3 y4 y5 hGa
      simp only at y0 y1 y2 y3 y4 y5
      have GA := Lib.hid hGa
      have HXX := Lib.hid hx
      clear hx hGa
      obtain ⟨E, hE⟩ : ∃ E, dsE r 11 ⟨d, pp, (xa, xb, xc), nn⟩ = E := ⟨_, rfl⟩
      obtain ⟨r', hr⟩ : ∃ E, dsR r 11 ⟨d, pp, (xa, xb, xc), nn⟩ = E := ⟨_, rfl⟩
      have HE := Lib.hid hE
      have HR' := Lib.hid hr
      have HK' := Lib.hid (show r'.k = 4 from by rw [← hr, dsR_k]; exact HK.out)
      clear hE hr
      go_wp2_with fail
      refine (does_q g 11 d pp xa xb xc nn r _ E r' GA.out HE.out HR'.out HX.out.cr (by rw [HK.out]; omega)).mono ?_
      rintro e w5 ⟨rfl, hC5, hO5⟩
      have X5 := Lib.hid (HX.out.turn1 hC5 hO5)
      have O5 := Lib.hid (own_turn HO.out hO5 hg3)
      clear hC5 hO5 y0 y1 y2 y3 y4 y5 HX HO hb0
      obtain ⟨b1, o1, hl, he, hb0, y0, y1, y2, y3, y4, y5⟩ := (rd_own O5.out).openAct hlt
      injection he with he
      injection he with he1 he2
      subst he1 he2
      rw [HXX.out] at y0 y1 y2 y3 y4 y5
      simp only at y0 y1 y2 y3 y4 y5
      by_cases hd : d = 2
      · have q1 : (d == 2) = true := by rw [beq_iff_eq]; exact hd
        have HA := Lib.hid (show (⟨d, pp, (xa, xb, xc), nn⟩ : ActV).d = 2 ∨ (⟨d, pp, (xa, xb, xc), nn⟩ : ActV).p = q from .inl hd)
        clear hd
        obtain ⟨s', hs⟩ : ∃ E, dsR s 11 ⟨d, pp, (xa, xb, xc), nn⟩ = E := ⟨_, rfl⟩
        have HS := Lib.hid hs
        have HE2 := Lib.hid (alone_ok HR.out 11 HA.out GA.out HE.out)
        have HRn := Lib.hid (show Rel q r' s' from by rw [← HR'.out, ← hs]; exact (same_ds HR.out 11 HA.out GA.out).2)
        clear hs
        go_wp2_with fail
        refine (does_q k 11 d pp xa xb xc nn s _ E s' GA.out HE2.out HS.out X5.out.cs (by rw [← HR.out.k, HK.out]; omega)).mono ?_
        rintro e w6 ⟨rfl, hC6, hO6⟩
        have X6 := Lib.hid (X5.out.turn2 hC6 hO6)
        have O6 := Lib.hid (own_turn O5.out hO6 hk3)
        have qE : (E != E) = false := bne_self_eq_false E
        clear hC6 hO6 y0 y1 y2 y3 y4 y5 X5 O5 hb0
        go_wp2
        go_roundw
        case rel => exact ⟨i + 1, r', s', by omega, by go_num, X6, HRn, HK', O6⟩
        case measure => simp [intOf]; omega
      · have q1 : (d == 2) = false := by rw [beq_eq_false_iff_ne]; exact hd
        by_cases hp : pp = q
        · have q2 : (pp == (q : Int)) = true := by rw [beq_iff_eq]; exact hp
          have HA := Lib.hid (show (⟨d, pp, (xa, xb, xc), nn⟩ : ActV).d = 2 ∨ (⟨d, pp, (xa, xb, xc), nn⟩ : ActV).p = q from .inr hp)
          clear hd hp
          obtain ⟨s', hs⟩ : ∃ E, dsR s 11 ⟨d, pp, (xa, xb, xc), nn⟩ = E := ⟨_, rfl⟩
          have HS := Lib.hid hs
          have HE2 := Lib.hid (alone_ok HR.out 11 HA.out GA.out HE.out)
          have HRn := Lib.hid (show Rel q r' s' from by rw [← HR'.out, ← hs]; exact (same_ds HR.out 11 HA.out GA.out).2)
          clear hs
          go_wp2_with fail
          refine (does_q k 11 d pp xa xb xc nn s _ E s' GA.out HE2.out HS.out X5.out.cs (by rw [← HR.out.k, HK.out]; omega)).mono ?_
          rintro e w6 ⟨rfl, hC6, hO6⟩
          have X6 := Lib.hid (X5.out.turn2 hC6 hO6)
          have O6 := Lib.hid (own_turn O5.out hO6 hk3)
          have qE : (E != E) = false := bne_self_eq_false E
          clear hC6 hO6 y0 y1 y2 y3 y4 y5 X5 O5 hb0
          go_wp2
          go_roundw
          case rel => exact ⟨i + 1, r', s', by omega, by go_num, X6, HRn, HK', O6⟩
          case measure => simp [intOf]; omega
        · have q2 : (pp == (q : Int)) = false := by rw [beq_eq_false_iff_ne]; exact hp
          have HRn := Lib.hid (show Rel q r' s from by rw [← HR'.out]; exact other_ds HR.out 11 hd hp GA.out)
          clear hd hp
          go_wp2
          go_roundw
          case rel => exact ⟨i + 1, r', s, by omega, by go_num, X5, HRn, HK', O5⟩
          case measure => simp [intOf]; omega
    · obtain rfl : L.length = i := by omega
      go_wp2_with fail
      refine (inputs_any A2 n2 c2 l2 4 4 _ rfl W2.out (rd_step R2.out HX.out.hb) hn2 (by omega)).mono ?_
      rintro e w5 ⟨A5, c5, rfl, _, _, hown5, hb5⟩
      have R5 := Lib.hid (rd_own hown5)
      have X5 := Lib.hid (HX.out.call hb5)
      obtain ⟨known, hkn⟩ : ∃ x, (l2.map inpOf).take 4 = x := ⟨_, rfl⟩
      rw [hkn] at R5
      clear hown5 hb5 HX R2 W2 hkn HO
      go_wp2_with fail
      refine (result_any g A5 _ c5 known r _ X5.out.cr (by rw [HK.out]; omega) R5.out).mono ?_
      rintro e w6 ⟨A6, c6, A7, c7, rfl, o1, o2, hb6⟩
      have X6 := Lib.hid (X5.out.call hb6)
      have R5 := Lib.hid (rd_step R5.out hb6)
      have S1 := Lib.hid (rd_own o1)
      have S2 := Lib.hid (rd_own o2)
      clear o1 o2 hb6 X5
      go_wp2_with fail
      refine (result_any k A5 _ c5 known s _ X6.out.cs (by rw [← HR.out.k, HK.out]; omega) R5.out).mono ?_
      rintro e w7 ⟨A8, c8, A9, c9, rfl, o1, o2, hb7⟩
      have X7 := Lib.hid (X6.out.call hb7)
      have S1 := Lib.hid (rd_step S1.out hb7)
      have S2 := Lib.hid (rd_step S2.out hb7)
      have S3 := Lib.hid (rd_own o1)
      have S4 := Lib.hid (rd_own o2)
      have HKs := Lib.hid (show s.k = 4 from by rw [← HR.out.k]; exact HK.out)
      rw [HK.out] at S1 S2
      rw [HKs.out] at S3 S4
      rw [HK.out, HKs.out]
      clear o1 o2 hb7 X6 R5
      obtain ⟨b1, o1, hl1, rfl, hb1, y0, y1, y2⟩ := S1.out.openRow (k := q) hq4
      obtain ⟨b3, o3, hl3, rfl, hb3, z0, z1, z2⟩ := S3.out.openRow (k := q) hq4
      obtain ⟨⟨xa, xb, xc⟩, hx⟩ : ∃ x, resV r known q = x := ⟨_, rfl⟩
      have e1 : (resL r known 4)[q]'hl1 = (xa, xb, xc) := by
        have := resL_get r known hq4
        rw [List.getElem?_eq_getElem hl1, hx] at this
        injection this
      have e3 : (resL s known 4)[q]'hl3 = (xa, xb, xc) := by
        have := resL_get s known hq4
        rw [List.getElem?_eq_getElem hl3, ← rel_res HR.out, hx] at this
        injection this
      rw [e1] at y0 y1 y2
      rw [e3] at z0 z1 z2
      simp only at y0 y1 y2 z0 z1 z2
      obtain ⟨bb, hbb⟩ : ∃ b, decide ((q : Int) ∈ resF r 4) = b := ⟨_, rfl⟩
      have HB1 := Lib.hid hbb
      have HB2 := Lib.hid (show decide ((q : Int) ∈ resF s 4) = bb from by rw [← rel_fau HR.out, hbb])
      have l2 := resF_le r 4
      have l4 := resF_le s 4
      generalize (resF r 4).length = m2 at *
      generalize (resF s 4).length = m4 at *
      clear hx e1 e3 hbb
      have n1 := fun W => run_eql3 xa xb xc xa xb xc W
      have n2' := eqInp_self (xa, xb, xc)
      have qb : (bb == bb) = true := beq_self_eq_true bb
      have k1 : (0 : Int) ≤ (q : Int) := by omega
      have k2 : (q : Int) < 4 := by omega
      go_wp2
      go_region_held3 (fun w' => (∀ b o, b < w7.heap.size → w'.cell? ⟨b, o, none⟩ = w7.cell? ⟨b, o, none⟩) ∧ Below w7.heap.size w7 w') (first | exact still_call (by assumption) (by assumption) | exact still_drew0 _ | exact still_drew (by assumption) | exact still_alloc (by assumption) _ | exact still_of (by (repeat (first | (with_reducible exact Below.refl _ _) | (with_reducible assumption) | (with_reducible refine b_drew ?_) | (with_reducible refine b_drewN ?_ _) | (with_reducible refine b_alloc ?_ _) | ((with_reducible refine b_set ?_ ?_ _); rotate_left; (focus (first | omega | (simp; done) | (simp; omega) | (simp at *; omega)))) | (with_reducible refine b_call ?_ (by with_reducible assumption)))))) (first | (go_at_call 13; refine (lives_any _).mono ?_; rintro e w14 ⟨rfl, hb14⟩) | (go_at_call 24; (with_reducible refine (has_q A7 m2 c7 _ _ bb _ HB1.out (by omega) (rd_step S2.out (by (repeat (first | (with_reducible exact Below.refl _ _) | (with_reducible assumption) | (with_reducible refine b_drew ?_) | (with_reducible refine b_drewN ?_ _) | (with_reducible refine b_alloc ?_ _) | ((with_reducible refine b_set ?_ ?_ _); rotate_left; (focus (first | omega | (simp; done) | (simp; omega) | (simp at *; omega)))) | (with_reducible refine b_call ?_ (by with_reducible assumption))))))).mono ?_); rintro e w13 ⟨rfl, rfl⟩) | (go_at_call 24; (with_reducible refine (has_q A9 m4 c9 _ _ bb _ HB2.out (by omega) (rd_step S4.out (by (repeat (first | (with_reducible exact Below.refl _ _) | (with_reducible assumption) | (with_reducible refine b_drew ?_) | (with_reducible refine b_drewN ?_ _) | (with_reducible refine b_alloc ?_ _) | ((with_reducible refine b_set ?_ ?_ _); rotate_left; (focus (first | omega | (simp; done) | (simp; omega) | (simp at *; omega)))) | (with_reducible refine b_call ?_ (by with_reducible assumption))))))).mono ?_); rintro e w13 ⟨rfl, rfl⟩))
      all_goals
        go_wp2
        go_ret
        exact ⟨rfl, b_call X7.out.hb (by (repeat (first | (with_reducible exact Below.refl _ _) | (with_reducible assumption) | (with_reducible refine b_drew ?_) | (with_reducible refine b_drewN ?_ _) | (with_reducible refine b_alloc ?_ _) | ((with_reducible refine b_set ?_ ?_ _); rotate_left; (focus (first | omega | (simp; done) | (simp; omega) | (simp at *; omega)))) | (with_reducible refine b_call ?_ (by with_reducible assumption)))))⟩
theorem ml_le {n c : Nat} (h1 : n ≤ c) (h2 : c ≤ maxLen) : n ≤ 9223372036854775807 := by
  unfold maxLen at h2
  omega
end Go.Proofs.Ytojmkfhinkmhaaa
