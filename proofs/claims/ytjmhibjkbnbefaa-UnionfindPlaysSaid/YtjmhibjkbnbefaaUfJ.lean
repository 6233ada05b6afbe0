/-
  WHAT IS PROVED HERE: the walk of the law UnionfindPlays: it returns true at every input, and leaves old memory as it was. Conditions: the arguments' lengths are a machine's.
-/
import Derived.Test.YtjmhibjkbnbefaaUfH
namespace Go.Proofs.Ytjmhibjkbnbefaa
set_option linter.unusedVariables false
open Go.ChangeShapes Go.WideShapes Go.ChangeAt Go.RowKit

/-- The program's sets and the reference's numbers agree on the partition. -/
structure Both (w : World) (p g K : Nat) (f : Nat → Nat) (A : Option Addr) (s : List Int) : Prop where
  ufs : Ufs w p g K f
  len : s.length = K
  rel : RelU s f
  rd : RdN w g 1 A K (s.map (Value.int .i64))
theorem Both.below {w w' : World} {p g K : Nat} {f : Nat → Nat} {A : Option Addr} {s : List Int} (h : Both w p g K f A s) (hb : Below w.heap.size w w') : Both w' p g K f A s := ⟨h.ufs.below hb, h.len, h.rel, h.rd.below hb⟩

set_option maxRecDepth 100000 in
set_option maxHeartbeats 8000000 in
theorem plays_walk (a : Int) (A : Option Addr) (n c : Nat) (l : List Int) (x y : Int) (w : World) (ha : -9223372036854775808 ≤ a ∧ a ≤ 9223372036854775807)
    (nc : n ≤ c) (cm : c ≤ maxLen) (ln : l.length = n) (rd : Rd w w.heap.size 1 A n (l.map (Value.int .i64))) (wf : ∀ x ∈ l, (Lit.int .i64 x).wf = true)
    (hx : -9223372036854775808 ≤ x ∧ x ≤ 9223372036854775807) (hy : -9223372036854775808 ≤ y ∧ y ≤ 9223372036854775807) :
    Calls Try.prog 8 #[.int .i64 a, .slice A n c, .int .i64 x, .int .i64 y] w fun e w' => e = .returned (.bool true) ∧ Below w.heap.size w w' := by
  have RD := Lib.hid rd
  have H64 := Lib.hid (fun x hx => bounds_i64 (wf x hx))
  have hn : n ≤ 9223372036854775807 := by unfold maxLen at cm; omega
  obtain ⟨K, hK, hK14⟩ := size_nat a
  have HK := Lib.hid hK
  have HB := Lib.hid (edgesOf_bd l)
  have hm30 : min n 30 ≤ 30 := Nat.min_le_right _ _
  have HM := Lib.hid (show (edgesOf l).length = min n 30 from by unfold edgesOf; rw [List.length_take, List.length_map, ln, Nat.min_comm])
  clear rd wf nc cm ln hK
  go_enter Try.func8, Try.ntmps8
  go_wp2_with fail
  refine (size_any a _ ha.1 ha.2).mono ?_
  rintro e w_ ⟨rfl, rfl⟩
  rw [HK.out]
  go_wp2_with fail
  refine (ufnew_any K _ (by omega)).mono ?_
  rintro e w1 ⟨p, g, rfl, hp, hg, U1, hb1⟩
  have U1 := Lib.hid U1
  go_wp2_with fail
  refine (refnew_any K _ (by omega)).mono ?_
  rintro e w2 ⟨A1, c1, rfl, hc1, hm1, own1, hb2⟩
  have O1 := Lib.hid own1
  clear own1
  go_wp2_with fail
  refine (edges_any A n c l _ H64.out (rd_step (rd_step RD.out hb1) hb2) hn).mono ?_
  rintro e w3 ⟨A2, c2, rfl, hc2, hm2, own2, hb3⟩
  have R2 := Lib.hid (show RdN w3 g 2 A2 (min n 30) (flat2 (edgesOf l)) from RdN.of_new own2 (by have := U1.out.lt.2; have := hb2.size; omega))
  clear own2
  have hgl : g < w1.heap.size := U1.out.lt.2
  have B0 := Lib.hid (show Both w3 p g K (foldU K idU ((edgesOf l).take 0)) A1 (newS K) from ⟨(U1.out.below hb2).below hb3, newS_len K, rel_new K, (RdN.of_new O1.out hgl).below hb3⟩)
  have hB3 : Below w.heap.size w w3 := by (repeat (first | (with_reducible exact Below.refl _ _) | (with_reducible assumption) | (with_reducible refine b_drew ?_) | (with_reducible refine b_drewN ?_ _) | (with_reducible refine b_alloc ?_ _) | ((with_reducible refine b_set ?_ ?_ _); rotate_left; (focus (first | omega | (simp; done) | (simp; omega) | (simp at *; omega)))) | (with_reducible refine b_call ?_ (by with_reducible assumption))))
  clear hb1 hb2 hb3 O1 U1 RD
  generalize min n 30 = m at *
  go_wp2
  go_loopw [11, 13] (fun s11 s13 wr => ∃ (k : Nat) (A3 : Option Addr) (c3 : Nat) (s : List Int), k ≤ m ∧ s13 = .int .i64 k ∧ s11 = .slice A3 K c3 ∧ Hid (Both wr p g K (foldU K idU ((edgesOf l).take k)) A3 s) ∧ Only (· = g) w3 wr) (fun _ i _ => m - (intOf i).toNat)
  case atStart => exact ⟨0, A1, c1, newS K, by omega, rfl, rfl, B0, Only.refl _ _⟩
  case round =>
    obtain ⟨V, rfl⟩ : ∃ V : World, V = wr := ⟨_, rfl⟩
    obtain ⟨k, A3, c3, s, hk, rfl, rfl, HBo, hO⟩ := hrel
    have RV := R2.out.only hO
    by_cases hlt : k < m
    · obtain ⟨b, o, hl, rfl, hb, hc0, hc1⟩ := RV.1.openEdge hlt
      have hbg : b ≠ g := RV.2 _ rfl
      have EF := Lib.hid (fold_take (n := K) (f := idU) hl)
      have hbd := HB.out _ (List.getElem_mem hl)
      obtain ⟨⟨u, v⟩, hxe⟩ : ∃ x, (edgesOf l)[k] = x := ⟨_, rfl⟩
      rw [hxe] at hc0 hc1 hbd EF
      clear hxe RV
      obtain ⟨⟨bx1, bx2⟩, by1, by2⟩ := hbd
      obtain ⟨f, hf⟩ : ∃ f, foldU K idU ((edgesOf l).take k) = f := ⟨_, rfl⟩
      rw [hf] at EF HBo
      clear hf
      obtain ⟨q, hq⟩ : ∃ q, uniB K f u v = q := ⟨_, rfl⟩
      obtain ⟨f', hf'⟩ : ∃ f', uniF K f u v = f' := ⟨_, rfl⟩
      obtain ⟨q2, hq2⟩ : ∃ q, sameU K f' x y = q := ⟨_, rfl⟩
      have HQ := Lib.hid hq
      have HF' := Lib.hid hf'
      have HQ2 := Lib.hid hq2
      clear hq hf' hq2
      have hqq : (q != q) = false := by simp
      have hqq2 : (q2 != q2) = false := by simp
      have HR' := Lib.hid (show RelU (uniS s u v) f' from by have h := rel_uni HBo.out.rel u v; rw [HBo.out.len, HF'.out] at h; exact h)
      have HL' := Lib.hid (show (uniS s u v).length = K from by rw [uniS_len]; exact HBo.out.len)
      go_wp2_with fail
      go_region_held3 (fun w' => (∀ b o, b < V.heap.size → w'.cell? ⟨b, o, none⟩ = V.cell? ⟨b, o, none⟩) ∧ Below V.heap.size V w') (first | exact still_call (by assumption) (by assumption) | exact still_drew0 _ | exact still_drew (by assumption) | exact still_alloc (by assumption) _ | exact still_of (by (repeat (first | (with_reducible exact Below.refl _ _) | (with_reducible assumption) | (with_reducible refine b_drew ?_) | (with_reducible refine b_drewN ?_ _) | (with_reducible refine b_alloc ?_ _) | ((with_reducible refine b_set ?_ ?_ _); rotate_left; (focus (first | omega | (simp; done) | (simp; omega) | (simp at *; omega)))) | (with_reducible refine b_call ?_ (by with_reducible assumption)))))) (first
        | (go_at_call 24; refine (refunion_is A3 K c3 s f u v _ q HQ.out (by omega) HBo.out.len HBo.out.rel (HBo.out.rd.below (by (repeat (first | (with_reducible exact Below.refl _ _) | (with_reducible assumption) | (with_reducible refine b_drew ?_) | (with_reducible refine b_drewN ?_ _) | (with_reducible refine b_alloc ?_ _) | ((with_reducible refine b_set ?_ ?_ _); rotate_left; (focus (first | omega | (simp; done) | (simp; omega) | (simp at *; omega)))) | (with_reducible refine b_call ?_ (by with_reducible assumption)))))).1).mono ?_; rintro e w5 ⟨A5, c5, rfl, rd5, hl5, hb5⟩; have RD5 := Lib.hid (And.intro rd5 hl5); clear rd5 hl5))
      have hB5 : Below V.heap.size V w5 := b_call (b_drew (Below.refl _ _)) hb5
      have RN5 := Lib.hid (show RdN w5 g 1 A5 K ((uniS s u v).map (Value.int .i64)) from ⟨RD5.out.1, fun ad he => by
        rcases RD5.out.2 with h | h
        · subst h
          exact HBo.out.rd.2 ad he
        · have h1 := h ad he
          have h2 := HBo.out.ufs.lt.2
          have h3 : V.heap.size ≤ ad.block := h1
          omega⟩)
      have hcu := cell_keep hB5 hc0
      have hcv := cell_keep hB5 hc1
      have U5 := Lib.hid (HBo.out.ufs.below hB5)
      have O5 : Only (· = g) w3 w5 := o_below hO hB5
      have hb5' : b < w5.heap.size := Nat.lt_of_lt_of_le hb hB5.size
      clear HBo hO RD5 hc0 hc1 hB5 hb5 hb
      go_wp2_with fail
      go_region_held3 (fun w' => (∀ b o, b < w5.heap.size → b ≠ g → w'.cell? ⟨b, o, none⟩ = w5.cell? ⟨b, o, none⟩) ∧ Only (· = g) w5 w') (exact stillG (by (repeat (first | (with_reducible exact Only.refl _ _) | (with_reducible assumption) | (with_reducible refine o_drew ?_) | (with_reducible refine o_drewN ?_ _) | (with_reducible refine o_alloc ?_ _) | (with_reducible refine o_call ?_ (by with_reducible assumption)) | (with_reducible refine o_below ?_ (by with_reducible assumption)))))) (first
        | (go_at_call 25; refine (ufunion_is p g K f u v _ q f' HQ.out HF'.out (by omega) (by omega) (by omega) (U5.out.below (by (repeat (first | (with_reducible exact Below.refl _ _) | (with_reducible assumption) | (with_reducible refine b_drew ?_) | (with_reducible refine b_drewN ?_ _) | (with_reducible refine b_alloc ?_ _) | ((with_reducible refine b_set ?_ ?_ _); rotate_left; (focus (first | omega | (simp; done) | (simp; omega) | (simp at *; omega)))) | (with_reducible refine b_call ?_ (by with_reducible assumption))))))).mono ?_; rintro e w6 ⟨rfl, U6, O6⟩; have U6 := Lib.hid U6)
        | (go_at_call 26; refine (ufsame_is p g K f' x y _ q2 HQ2.out (by omega) hx hy (U6.out.below (by (repeat (first | (with_reducible exact Below.refl _ _) | (with_reducible assumption) | (with_reducible refine b_drew ?_) | (with_reducible refine b_drewN ?_ _) | (with_reducible refine b_alloc ?_ _) | ((with_reducible refine b_set ?_ ?_ _); rotate_left; (focus (first | omega | (simp; done) | (simp; omega) | (simp at *; omega)))) | (with_reducible refine b_call ?_ (by with_reducible assumption))))))).mono ?_; rintro e w7 ⟨rfl, U7, O7⟩; have U7 := Lib.hid U7)
        | (go_at_call 27; refine (refsame_is A5 K c5 (uniS s u v) f' x y _ q2 HQ2.out (by omega) HL'.out HR'.out (RN5.out.only (by (repeat (first | (with_reducible exact Only.refl _ _) | (with_reducible assumption) | (with_reducible refine o_drew ?_) | (with_reducible refine o_drewN ?_ _) | (with_reducible refine o_alloc ?_ _) | (with_reducible refine o_call ?_ (by with_reducible assumption)) | (with_reducible refine o_below ?_ (by with_reducible assumption)))))).1).mono ?_; rintro e w8 ⟨rfl, hb8⟩))
      all_goals
        go_wp2
        refine name_world ?_
        intro Z hZ
        have OZ : Only (· = g) w5 Z := by rw [hZ]; (repeat (first | (with_reducible exact Only.refl _ _) | (with_reducible assumption) | (with_reducible refine o_drew ?_) | (with_reducible refine o_drewN ?_ _) | (with_reducible refine o_alloc ?_ _) | (with_reducible refine o_call ?_ (by with_reducible assumption)) | (with_reducible refine o_below ?_ (by with_reducible assumption))))
        have UZ := Lib.hid (show Ufs Z p g K f' from by rw [hZ]; exact U7.out.below (by (repeat (first | (with_reducible exact Below.refl _ _) | (with_reducible assumption) | (with_reducible refine b_drew ?_) | (with_reducible refine b_drewN ?_ _) | (with_reducible refine b_alloc ?_ _) | ((with_reducible refine b_set ?_ ?_ _); rotate_left; (focus (first | omega | (simp; done) | (simp; omega) | (simp at *; omega)))) | (with_reducible refine b_call ?_ (by with_reducible assumption))))))
        have RZ := Lib.hid (RN5.out.only OZ)
        have hcz := cell_keepG OZ hbg hcu
        have hO3 := o_call O5 OZ
        clear hZ U7 O7 U6 O6 hb8
        have hbz : b < Z.heap.size := Nat.lt_of_lt_of_le hb5' OZ.size
        go_loopw [16] (fun s16 wr => ∃ t : Int, -1 ≤ t ∧ t ≤ (K : Int) + 1 ∧ s16 = .int .i64 t ∧ Hid (Ufs wr p g K f') ∧ Only (· = g) Z wr) (fun i _ => ((K : Int) + 1 - intOf i).toNat)
        case atStart => exact ⟨-1, by omega, by omega, rfl, UZ, Only.refl _ _⟩
        case round =>
          obtain ⟨t, ht1, ht2, rfl, HUt, hOt⟩ := hrel
          by_cases htK : t ≤ (K : Int)
          · have hct := cell_keepG hOt hbg hcz
            have hbt : b < wr.heap.size := Nat.lt_of_lt_of_le hbz hOt.size
            have RT := Lib.hid (RZ.out.only hOt)
            obtain ⟨q3, hq3⟩ : ∃ q, sameU K f' t u = q := ⟨_, rfl⟩
            have HQ3 := Lib.hid hq3
            have hqq3 : (q3 != q3) = false := by simp
            clear hq3
            go_wp2_with fail
            go_region_held3 (fun w' => (∀ b o, b < wr.heap.size → b ≠ g → w'.cell? ⟨b, o, none⟩ = wr.cell? ⟨b, o, none⟩) ∧ Only (· = g) wr w') (exact stillG (by (repeat (first | (with_reducible exact Only.refl _ _) | (with_reducible assumption) | (with_reducible refine o_drew ?_) | (with_reducible refine o_drewN ?_ _) | (with_reducible refine o_alloc ?_ _) | (with_reducible refine o_call ?_ (by with_reducible assumption)) | (with_reducible refine o_below ?_ (by with_reducible assumption)))))) (first
              | (go_at_call 26; refine (ufsame_is p g K f' t u _ q3 HQ3.out (by omega) (by omega) (by omega) (HUt.out.below (by (repeat (first | (with_reducible exact Below.refl _ _) | (with_reducible assumption) | (with_reducible refine b_drew ?_) | (with_reducible refine b_drewN ?_ _) | (with_reducible refine b_alloc ?_ _) | ((with_reducible refine b_set ?_ ?_ _); rotate_left; (focus (first | omega | (simp; done) | (simp; omega) | (simp at *; omega)))) | (with_reducible refine b_call ?_ (by with_reducible assumption))))))).mono ?_; rintro e w7 ⟨rfl, U7, O7⟩; have U7 := Lib.hid U7)
              | (go_at_call 27; refine (refsame_is A5 K c5 (uniS s u v) f' t u _ q3 HQ3.out (by omega) HL'.out HR'.out (RT.out.only (by (repeat (first | (with_reducible exact Only.refl _ _) | (with_reducible assumption) | (with_reducible refine o_drew ?_) | (with_reducible refine o_drewN ?_ _) | (with_reducible refine o_alloc ?_ _) | (with_reducible refine o_call ?_ (by with_reducible assumption)) | (with_reducible refine o_below ?_ (by with_reducible assumption)))))).1).mono ?_; rintro e w8 ⟨rfl, hb8⟩))
            all_goals
              go_wp2
              go_roundw
              case rel => exact ⟨t + 1, by omega, by omega, rfl, Lib.hid (U7.out.below (by (repeat (first | (with_reducible exact Below.refl _ _) | (with_reducible assumption) | (with_reducible refine b_drew ?_) | (with_reducible refine b_drewN ?_ _) | (with_reducible refine b_alloc ?_ _) | ((with_reducible refine b_set ?_ ?_ _); rotate_left; (focus (first | omega | (simp; done) | (simp; omega) | (simp at *; omega)))) | (with_reducible refine b_call ?_ (by with_reducible assumption)))))), o_call hOt (by (repeat (first | (with_reducible exact Only.refl _ _) | (with_reducible assumption) | (with_reducible refine o_drew ?_) | (with_reducible refine o_drewN ?_ _) | (with_reducible refine o_alloc ?_ _) | (with_reducible refine o_call ?_ (by with_reducible assumption)) | (with_reducible refine o_below ?_ (by with_reducible assumption)))))⟩
              case measure => simp [intOf]; omega
          · have hd : decide (t ≤ (K : Int)) = false := by simpa using htK
            clear ht1 ht2 htK
            have hk1 : k + 1 ≤ m := by omega
            go_wp2
            go_roundw
            case rel => exact ⟨k + 1, A5, c5, uniS s u v, by omega, by go_num, rfl, Lib.hid ⟨by rw [EF.out, HF'.out]; exact HUt.out, HL'.out, by rw [EF.out, HF'.out]; exact HR'.out, RZ.out.only hOt⟩, o_call hO3 hOt⟩
            case measure => simp [intOf]; omega
    · obtain rfl : m = k := by omega
      have HG := Lib.hid (show RelU s (foldU K idU ((edgesOf l).take m)) from HBo.out.rel)
      have HP := Lib.hid HBo.out.ufs.part
      have RD3 := Lib.hid HBo.out.rd
      have U3 := Lib.hid HBo.out.ufs
      have HL3 := Lib.hid HBo.out.len
      have hBw := hB3.trans (hO.below hB3.size (by rintro j rfl; omega))
      clear HBo
      generalize foldU K idU ((edgesOf l).take m) = f at *
      have HS := Lib.hid (groups_small (f := f) (n := K) (by omega))
      go_wp2_with fail
      refine (ufgroups_any p g K f _ (by omega) U3.out).mono ?_
      rintro e w4 ⟨A4, c4, vs4, rfl, hc4, hm4, own4, rows4, U4, O4⟩
      have R4 := Lib.hid (RdRows.of own4 rfl rows4)
      clear own4 rows4 U4
      go_wp2_with fail
      refine (refgroups_any A3 K c3 s f _ (by omega) HL3.out HG.out HP.out (RD3.out.only O4).1).mono ?_
      rintro e w5 ⟨A5, c5, vs5, rfl, hc5, hm5, own5, rows5, hb5⟩
      have R5 := Lib.hid (RdRows.of own5 rfl rows5)
      clear own5 rows5
      have hBw5 : Below w.heap.size w w5 := (hBw.trans (O4.below hBw.size (by rintro j rfl; omega))).trans (hb5.mono (by have := hBw.size; have := O4.size; omega))
      generalize groupsI f K = G at *
      go_wp2_with fail
      refine (equal2_same A4 A5 _ c4 _ c5 G _ (R4.out.step hb5) R5.out HS.out).mono ?_
      rintro e w6 ⟨rfl, hb6⟩
      go_wp2_with fail
      refine (lives_any _).mono ?_
      rintro e w7 ⟨rfl, hb7⟩
      go_wp2
      go_ret
      exact ⟨rfl, hBw5.trans (Below.mono (by (repeat (first | (with_reducible exact Below.refl _ _) | (with_reducible assumption) | (with_reducible refine b_drew ?_) | (with_reducible refine b_drewN ?_ _) | (with_reducible refine b_alloc ?_ _) | ((with_reducible refine b_set ?_ ?_ _); rotate_left; (focus (first | omega | (simp; done) | (simp; omega) | (simp at *; omega)))) | (with_reducible refine b_call ?_ (by with_reducible assumption))))) hBw5.size)⟩
end Go.Proofs.Ytjmhibjkbnbefaa
