/-
  WHAT IS PROVED HERE: the walk of the law CommitrevealHonest: it returns true at every input and leaves old memory as it was.
-/
import Derived.Test.YtojmkfhinkmhaaaCrR
namespace Go.Proofs.Ytojmkfhinkmhaaa
set_option linter.unusedVariables false
open Go.ChangeShapes Go.WideShapes Go.ChangeAt Go.RowKit

def honIn (l : List Int) : List Inp := (l.map inpOf).take 7 ++ [(1, 0, 0)]
theorem honIn_val (l : List Int) (p : Nat) : Val (xI (honIn l) p) := by
  unfold xI
  rw [List.getD_eq_getElem?_getD]
  rcases hg : (honIn l)[p]? with _ | x
  · exact (by decide : Val (0, 0, 0))
  · rcases List.mem_append.1 (List.mem_of_getElem? hg) with h | h
    · exact inputs_val l 7 x h
    · rw [List.mem_singleton.1 h]
      exact (by decide : Val (1, 0, 0))
theorem nu_lt {N : List Int} {p : Nat} (h : p < N.length) : nuI N p = N[p] := by
  unfold nuI
  rw [List.getD_eq_getElem?_getD, List.getElem?_eq_getElem h]
  rfl
theorem nu_ge {N : List Int} {p : Nat} (h : N.length ≤ p) : nuI N p = p := by
  unfold nuI
  rw [List.getD_eq_getElem?_getD, List.getElem?_eq_none h]
  rfl
/-- the rounds of the two phases -/
def HonP (X : List Inp) (N : List Int) (t : Int) (n τ ph i : Nat) (r : RdV) : Prop := if ph = 0 then Hon0 X N t n τ i r else Hon1 X N t n τ i r
/-- what lies beside the round -/
structure HonW (w0 w : World) (g : Nat) (r : RdV) (AI : Option Addr) (n cI : Nat) (X : List Inp) : Prop where
  x : Cx w0 w g r
  i : w.ownsRow w0.heap.size 25 3 (.slice AI n cI) n (flat X)
  hg : (Value.slice AI n cI).ownBlock ≠ some g
theorem HonW.turn {w0 w w' : World} {g : Nat} {r r' : RdV} {AI : Option Addr} {n cI : Nat} {X : List Inp} (h : HonW w0 w g r AI n cI X) (hc : Cr w' g r') (hO : Only (· = g) w w') : HonW w0 w' g r' AI n cI X := ⟨h.x.turn hc hO, own_only h.i hO h.hg, h.hg⟩
theorem HonW.call {w0 w w' : World} {g : Nat} {r : RdV} {AI : Option Addr} {n cI : Nat} {X : List Inp} (h : HonW w0 w g r AI n cI X) (hb : Below w.heap.size w w') : HonW w0 w' g r AI n cI X := ⟨h.x.call hb, own_below h.i hb, h.hg⟩
set_option maxRecDepth 100000 in
set_option maxHeartbeats 400000 in
theorem honest_walk (A1 : Option Addr) (n1 c1 : Nat) (l1 : List Int) (A2 : Option Addr) (n2 c2 : Nat) (N : List Int) (tk tn : Int) (w : World) (rd1 : Rd w w.heap.size 1 A1 n1 (l1.map (Value.int .i64))) (wf1 : ∀ x ∈ l1, -9223372036854775808 ≤ x ∧ x ≤ 9223372036854775807) (hn1 : n1 ≤ 9223372036854775807)
    (rd2 : Rd w w.heap.size 1 A2 n2 (N.map (Value.int .u64))) (wf2 : ∀ x ∈ N, 0 ≤ x ∧ x ≤ 18446744073709551615) (hn2 : n2 ≤ 9223372036854775807) (htk : -9223372036854775808 ≤ tk ∧ tk ≤ 9223372036854775807) (htn : -9223372036854775808 ≤ tn ∧ tn ≤ 9223372036854775807) :
    Calls Try.prog 4 #[.slice A1 n1 c1, .slice A2 n2 c2, .int .i64 tk, .int .i64 tn] w fun e w' => e = .returned (.bool true) ∧ Below w.heap.size w w' := by
  have R1 := Lib.hid rd1
  have R2 := Lib.hid rd2
  have W1 := Lib.hid wf1
  have W2 := Lib.hid wf2
  have HNl := Lib.hid (show N.length = n2 from by have := rd2.1; simpa using this)
  obtain ⟨k1, k2⟩ := htk
  obtain ⟨m1, m2⟩ := htn
  clear rd1 rd2 wf1 wf2
  go_enter Try.func4, Try.ntmps4
  go_wp2_with fail
  refine (inputs_any A1 n1 c1 l1 7 7 _ rfl W1.out R1.out hn1 (by omega)).mono ?_
  rintro e w1 ⟨A3, c3, rfl, _, _, hown, hb1⟩
  have O3 := Lib.hid hown
  have hm7 : min n1 7 ≤ 7 := Nat.min_le_right _ _
  obtain ⟨m, hm⟩ : ∃ m, min n1 7 = m := ⟨_, rfl⟩
  rw [hm] at hm7 O3 ⊢
  have hz1 := hb1.size
  clear hown hm
  go_wp2_with (at_builtin; refine wpList_app _ rfl (.tmp 21) (.tmp 23) slRow rfl rfl (own_below O3.out (b_alloc (Below.refl _ _) _)) rfl (rd_lit w1 _ _ rfl rfl) (by intro u hu; simp at hu; rcases hu with rfl | rfl | rfl <;> rfl) (m + 1) rfl (by unfold maxLen; omega) (by omega) (by simp; omega) ?_; intro A4 c4 w2 g1 g2 g3 g4 g5)
  have HI := Lib.hid (show w2.ownsRow w.heap.size 25 3 (.slice A4 (m + 1) c4) (m + 1) (flat (honIn l1)) from by unfold honIn; rw [flat_append, flat_one]; exact g3)
  have HB2 : Below w.heap.size w w2 := below_app (b_alloc hb1 _) (own_below O3.out (b_alloc (Below.refl _ _) _)) g4 (Nat.le_refl _) (by simp; omega)
  obtain ⟨n, hn⟩ : ∃ n, m + 1 = n := ⟨_, rfl⟩
  rw [hn] at HI ⊢
  have hnn1 : 1 ≤ n := by omega
  have hnn8 : n ≤ 8 := by omega
  clear g1 g2 g3 g4 g5 O3 hz1 hm7 hn hb1 R1 W1
  go_wp2_with fail
  refine (around_any tk 6001 _ k1 k2 (by omega) (by omega)).mono ?_
  rintro e w_ ⟨rfl, rfl⟩
  generalize around tk 6001 = T
  go_wp2_with fail
  refine (crnew_q n T _ hnn8).mono ?_
  rintro e w3 ⟨g, rfl, hg, hC3, hb3⟩
  have HW3 := Lib.hid (HonW.mk (w0 := w) (Cx.mk hC3 (by have := HB2.size; omega) (b_call HB2 hb3)) (own_below HI.out hb3) (fun e => by have := (HI.out.lt _ e).2; omega))
  have HX := Lib.hid (show (honIn l1).length = n from by have := HI.out.1; rw [flat_length] at this; omega)
  have HXV := Lib.hid (honIn_val l1)
  obtain ⟨X, hX⟩ : ∃ X, honIn l1 = X := ⟨_, rfl⟩
  rw [hX] at HW3 HX HXV
  have hab := around_bd tn n (by omega)
  obtain ⟨τ, hτ, hτn⟩ : ∃ q : Nat, around tn n = q ∧ q < n := ⟨(around tn n).toNat, by omega, by omega⟩
  have HT := Lib.hid hτ
  clear hC3 hb3 HI HB2 hg hX hab hτ k1 k2
  go_wp2
  go_loopw [13] (fun s13 wr => ∃ (ph : Nat) (r : RdV), ph ≤ 2 ∧ s13 = .int .i64 ph ∧ Hid (HonW w wr g r A4 n c4 X) ∧ Hid (HonP X N T n τ ph (if ph = 2 then n else 0) r)) (fun s13 _ => 2 - (intOf s13).toNat)
  case atStart => exact ⟨0, _, by omega, rfl, HW3, hon_new⟩
  case round =>
    obtain ⟨ph, r, hph, rfl, HW, HP⟩ := hrel
    have hph3 : ph = 0 ∨ ph = 1 ∨ ph = 2 := by omega
    rcases hph3 with rfl | rfl | rfl
    · go_wp2
      go_loopw [14] (fun s14 wr => ∃ (i : Nat) (r : RdV), i ≤ n ∧ s14 = .int .i64 i ∧ Hid (HonW w wr g r A4 n c4 X) ∧ Hid (Hon0 X N T n τ i r)) (fun s14 _ => n - (intOf s14).toNat)
      case atStart => exact ⟨0, r, by omega, rfl, HW, HP⟩
      case round =>
        obtain ⟨i, r, hi, rfl, HW, HP⟩ := hrel
        by_cases hlt : i < n
        · have hs := sg_mod hτn hlt
          obtain ⟨p, hp⟩ : ∃ p, sg n τ i = p := ⟨_, rfl⟩
          have hpn : p < n := by rw [← hp]; exact sg_lt hτn hlt
          rw [hp] at hs
          have HS := Lib.hid (hon0_step HP.out hτn hlt hp)
          obtain ⟨ν, hν⟩ : ∃ x, nuI N p = x := ⟨_, rfl⟩
          obtain ⟨⟨a, b, c⟩, hx⟩ : ∃ x, xI X p = x := ⟨_, rfl⟩
          have HV := Lib.hid (HXV.out p)
          have hνb : 0 ≤ ν ∧ ν ≤ 18446744073709551615 := by
            rw [← hν]
            by_cases h : p < N.length
            · rw [nu_lt h]; exact W2.out _ (List.getElem_mem h)
            · rw [nu_ge (by omega)]; omega
          rw [hx] at HV
          rw [hν, hx] at HS
          have HNU := Lib.hid hν
          have HXX := Lib.hid hx
          have HP0 := Lib.hid hp
          have NB := Lib.hid hνb
          have hnz : ((n : Int) = 0) = False := eq_false (by omega)
          clear hp hν hx hνb
          go_wp2_with fail
          refine (around_any tn n _ m1 m2 (by omega) (by omega)).mono ?_
          rintro e w_ ⟨rfl, rfl⟩
          rw [HT.out]
          go_upto_if 67 with fail
          rw [hs]
          have HSS := Lib.hid hs
          clear hs
          go_cut [16] from 68 to 72 (fun s16 wx => s16 = .int .u64 ν ∧ Hid (HonW w wx g r A4 n c4 X))
          case first =>
            by_cases hpl : p < n2
            · obtain ⟨b7, o7, hl7, rfl, hb7, z0⟩ := (R2.out.below HW.out.x.hb (Nat.le_refl _)).openMap (k := p) hpl
              rw [show N[p]'hl7 = ν from by rw [← HNU.out, nu_lt hl7]] at z0
              have hd : decide ((p : Int) < (n2 : Int)) = true := by simp; omega
              go_wp2
              go_meet
              case rel => exact ⟨rfl, HW⟩
            · have hd : decide ((p : Int) < (n2 : Int)) = false := by simp; omega
              have HE := Lib.hid (show (p : Int) = ν from by rw [← HNU.out, nu_ge (by rw [HNl.out]; omega)])
              go_wp2
              go_meet
              case rel => exact ⟨by rw [HE.out], HW⟩
          case' rest =>
            clear HW
          obtain ⟨rfl, HW⟩ := hcut
          obtain ⟨Y, rfl⟩ : ∃ W : World, W = wc := ⟨_, rfl⟩
          obtain ⟨b8, o8, hl8, rfl, hb8, y0, y1, y2⟩ := (rd_own HW.out.i).openRow (k := p) hpn
          have ex : X[p]'hl8 = (a, b, c) := by
            have := HXX.out
            unfold xI at this
            rw [List.getD_eq_getElem?_getD, List.getElem?_eq_getElem hl8] at this
            exact this
          rw [ex] at y0 y1 y2
          simp only at y0 y1 y2
          clear ex
          have k1 : (0 : Int) ≤ (p : Int) := by omega
          have k2 : (p : Int) < (n : Int) := by omega
          go_wp2_with fail
          refine (cmt_any p T a b c ν _ HV.out NB.out).mono ?_
          rintro e w5 ⟨rfl, hb5⟩
          have HW5 := Lib.hid (HW.out.call hb5)
          obtain ⟨C, hC⟩ : ∃ C, cmtI p T (a, b, c) ν = C := ⟨_, rfl⟩
          rw [hC] at HS ⊢
          clear HW hb5 y0 y1 y2 hC
          go_wp2_with fail
          refine (commit_q g p C r _ 0 (cmR r p C) HS.out.1 (by unfold cmS; rw [if_pos HS.out.1, toNat_q]) HW5.out.x.cr (by rw [HP.out.fk]; exact hnn8)).mono ?_
          rintro e w6 ⟨rfl, hC6, hO6⟩
          have HW6 := Lib.hid (HW5.out.turn hC6 hO6)
          clear hC6 hO6 HW5
          go_wp2
          go_roundw
          case rel => ((repeat apply Exists.intro); exact ⟨⟨i + 1, _, by omega, by go_num, HW6, HS.out.2⟩, rfl⟩)
          case measure => simp [intOf]; omega
        · obtain rfl : n = i := by omega
          go_wp2_with fail
          refine (crclose_any g r _ HW.out.x.cr).mono ?_
          rintro e w6 ⟨rfl, hC6, hO6⟩
          have HW6 := Lib.hid (HW.out.turn hC6 hO6)
          have HP6 := Lib.hid (hon0_end HP.out hτn)
          clear hC6 hO6
          go_wp2
          go_roundw
          case rel => exact ⟨1, _, by omega, rfl, HW6, HP6⟩
          case measure => simp [intOf]
    · go_wp2
      go_loopw [14] (fun s14 wr => ∃ (i : Nat) (r : RdV), i ≤ n ∧ s14 = .int .i64 i ∧ Hid (HonW w wr g r A4 n c4 X) ∧ Hid (Hon1 X N T n τ i r)) (fun s14 _ => n - (intOf s14).toNat)
      case atStart => exact ⟨0, r, by omega, rfl, HW, HP⟩
      case round =>
        obtain ⟨i, r, hi, rfl, HW, HP⟩ := hrel
        by_cases hlt : i < n
        · have hs := sg_mod hτn hlt
          obtain ⟨p, hp⟩ : ∃ p, sg n τ i = p := ⟨_, rfl⟩
          have hpn : p < n := by rw [← hp]; exact sg_lt hτn hlt
          rw [hp] at hs
          obtain ⟨q, hq⟩ : ∃ q, n - 1 - p = q := ⟨_, rfl⟩
          have hqI : (n : Int) - 1 - (p : Int) = (q : Int) := by omega
          have hqn : q < n := by omega
          have HS := Lib.hid (hon1_step HP.out hτn hlt (p := q) (by rw [hp]; exact hq) (HXV.out q))
          clear hq
          obtain ⟨ν, hν⟩ : ∃ x, nuI N q = x := ⟨_, rfl⟩
          obtain ⟨⟨a, b, c⟩, hx⟩ : ∃ x, xI X q = x := ⟨_, rfl⟩
          have HV := Lib.hid (HXV.out q)
          have hνb : 0 ≤ ν ∧ ν ≤ 18446744073709551615 := by
            rw [← hν]
            by_cases h : q < N.length
            · rw [nu_lt h]; exact W2.out _ (List.getElem_mem h)
            · rw [nu_ge (by omega)]; omega
          rw [hx] at HV
          rw [hν, hx] at HS
          have HNU := Lib.hid hν
          have HXX := Lib.hid hx
          have HP0 := Lib.hid hp
          have NB := Lib.hid hνb
          have hnz : ((n : Int) = 0) = False := eq_false (by omega)
          clear hp hν hx hνb
          go_wp2_with fail
          refine (around_any tn n _ m1 m2 (by omega) (by omega)).mono ?_
          rintro e w_ ⟨rfl, rfl⟩
          rw [HT.out]
          go_wp2_with fail
          refine (around_any tn n _ m1 m2 (by omega) (by omega)).mono ?_
          rintro e w_ ⟨rfl, rfl⟩
          rw [HT.out]
          go_upto_if 67 with fail
          rw [hs]
          have HSS := Lib.hid (And.intro hs hqI)
          clear hs hqI
          go_cut [16] from 68 to 72 (fun s16 wx => s16 = .int .u64 ν ∧ Hid (HonW w wx g r A4 n c4 X))
          case first =>
            by_cases hpl : q < n2
            · obtain ⟨b7, o7, hl7, rfl, hb7, z0⟩ := (R2.out.below HW.out.x.hb (Nat.le_refl _)).openMap (k := q) hpl
              rw [show N[q]'hl7 = ν from by rw [← HNU.out, nu_lt hl7]] at z0
              have hd : decide ((q : Int) < (n2 : Int)) = true := by simp; omega
              go_wp2
              go_meet
              case rel => exact ⟨rfl, HW⟩
            · have hd : decide ((q : Int) < (n2 : Int)) = false := by simp; omega
              have HE := Lib.hid (show (q : Int) = ν from by rw [← HNU.out, nu_ge (by rw [HNl.out]; omega)])
              go_wp2
              go_meet
              case rel => exact ⟨by rw [HE.out], HW⟩
          case' rest =>
            clear HW
          obtain ⟨rfl, HW⟩ := hcut
          obtain ⟨Y, rfl⟩ : ∃ W : World, W = wc := ⟨_, rfl⟩
          obtain ⟨b8, o8, hl8, rfl, hb8, y0, y1, y2⟩ := (rd_own HW.out.i).openRow (k := q) hqn
          have ex : X[q]'hl8 = (a, b, c) := by
            have := HXX.out
            unfold xI at this
            rw [List.getD_eq_getElem?_getD, List.getElem?_eq_getElem hl8] at this
            exact this
          rw [ex] at y0 y1 y2
          simp only at y0 y1 y2
          clear ex
          have k1 : (0 : Int) ≤ (q : Int) := by omega
          have k2 : (q : Int) < (n : Int) := by omega
          clear HSS
          go_wp2_with fail
          refine (reveal_q g q a b c ν r _ 0 (rvR r q (a, b, c)) HS.out.1 (by unfold rvS; rw [if_pos HS.out.1, toNat_q]) HW.out.x.cr (by rw [HP.out.fk]; exact hnn8) NB.out).mono ?_
          rintro e w6 ⟨rfl, hC6, hO6⟩
          have HW6 := Lib.hid (HW.out.turn hC6 hO6)
          clear hC6 hO6 HW
          go_wp2
          go_roundw
          case rel => ((repeat apply Exists.intro); exact ⟨⟨i + 1, _, by omega, by go_num, HW6, HS.out.2⟩, rfl⟩)
          case measure => simp [intOf]; omega
        · obtain rfl : n = i := by omega
          go_wp2_with fail
          refine (crclose_any g r _ HW.out.x.cr).mono ?_
          rintro e w6 ⟨rfl, hC6, hO6⟩
          have HW6 := Lib.hid (HW.out.turn hC6 hO6)
          have HP6 := Lib.hid (hon1_end HP.out)
          clear hC6 hO6
          go_wp2
          go_roundw
          case rel => exact ⟨2, _, by omega, rfl, HW6, HP6⟩
          case measure => simp [intOf]
    · have HH := Lib.hid (show Hon1 X N T n τ n r from HP.out)
      clear HP
      go_wp2_with fail
      refine (result_any g none 0 0 [] r _ HW.out.x.cr (by rw [HH.out.fk]; exact hnn8) (Rd.nil _)).mono ?_
      rintro e w6 ⟨A6, c6, A7, c7, rfl, o1, o2, hb6⟩
      rw [HH.out.fk, hon_res HH.out hτn HX.out] at o1
      rw [HH.out.fk, hon_fau HH.out hτn] at o2
      rw [HH.out.fk, hon_fau HH.out hτn]
      have S1 := Lib.hid (rd_own o1)
      have HW6 := Lib.hid (HW.out.call hb6)
      clear o1 o2 hb6 HW
      go_wp2_with fail
      refine (equal_any A6 A4 n c6 n c4 X X _ S1.out (rd_own HW6.out.i) (by omega) (by omega)).mono ?_
      rintro e w7 ⟨rfl, hb7⟩
      rw [show decide (X = X) = true from decide_eq_true rfl]
      go_wp2_with fail
      refine (lives_any _).mono ?_
      rintro e w8 ⟨rfl, hb8⟩
      go_wp2
      go_ret
      exact ⟨rfl, b_call HW6.out.x.hb (by (repeat (first | (with_reducible exact Below.refl _ _) | (with_reducible assumption) | (with_reducible refine b_drew ?_) | (with_reducible refine b_drewN ?_ _) | (with_reducible refine b_alloc ?_ _) | ((with_reducible refine b_set ?_ ?_ _); rotate_left; (focus (first | omega | (simp; done) | (simp; omega) | (simp at *; omega)))) | (with_reducible refine b_call ?_ (by with_reducible assumption)))))⟩
end Go.Proofs.Ytojmkfhinkmhaaa
