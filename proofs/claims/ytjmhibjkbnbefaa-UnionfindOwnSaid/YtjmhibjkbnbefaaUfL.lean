/-
  WHAT IS PROVED HERE: the contract of the laws' helper merged, and the walk of the law UnionfindEquivalence: it returns true at every input, and leaves old memory as it was. Conditions: the arguments' lengths are a machine's.
-/
import Derived.Test.YtjmhibjkbnbefaaUfH
namespace Go.Proofs.Ytjmhibjkbnbefaa
set_option linter.unusedVariables false
open Go.ChangeShapes Go.WideShapes Go.ChangeAt Go.RowKit

set_option maxHeartbeats 2000000 in
theorem merged_any (n : Nat) (A : Option Addr) (m c : Nat) (E : List (Int × Int)) (w : World) (hn : n ≤ 10000) (hm : m ≤ 1000000) (hE : EdgeBd E) (rd : Rd w w.heap.size 2 A m (flat2 E)) (hA : ∀ ad, A = some ad → ad.block < w.heap.size) :
    Calls Try.prog 20 #[.int .i64 (n : Int), .slice A m c] w (RetS w n (foldU n idU E)) := by
  have hlm : E.length = m := by have := rd.1; rw [flat2_length] at this; omega
  have RD := Lib.hid (And.intro rd hA)
  have HLM := Lib.hid hlm
  have HE := Lib.hid hE
  clear rd hlm hE hA
  go_enter Try.func20, Try.ntmps20
  go_wp2_with fail
  refine (ufnew_any n _ hn).mono ?_
  rintro e w1 ⟨p, g, rfl, hp, hg, U1, hb1⟩
  have U1 := Lib.hid U1
  have RN := Lib.hid (show RdN w1 g 2 A m (flat2 E) from ⟨rd_step RD.out.1 hb1, fun ad he => by have := RD.out.2 ad he; omega⟩)
  go_wp2
  go_loopw [6] (fun i wr => ∃ k : Nat, k ≤ m ∧ i = .int .i64 k ∧ Hid (Ufs wr p g n (foldU n idU (E.take k))) ∧ Only (· = g) w1 wr) (fun i _ => m - (intOf i).toNat)
  case atStart => exact ⟨0, by omega, rfl, U1, Only.refl _ _⟩
  case round =>
    obtain ⟨k, hk, rfl, HU, hO⟩ := hrel
    have RV := RN.out.only hO
    by_cases hlt : k < m
    · obtain ⟨b, o, hl, rfl, hb, hc0, hc1⟩ := RV.1.openEdge hlt
      have hbg : b ≠ g := RV.2 _ rfl
      have EF := Lib.hid (fold_take (n := n) (f := idU) hl)
      have hbd := HE.out _ (List.getElem_mem hl)
      obtain ⟨⟨x, y⟩, hx⟩ : ∃ x, E[k] = x := ⟨_, rfl⟩
      rw [hx] at hc0 hc1 hbd EF
      clear hx RV
      obtain ⟨⟨bx1, bx2⟩, by1, by2⟩ := hbd
      go_wp2_with fail
      go_region_held3 (fun w' => (∀ b o, b < wr.heap.size → b ≠ g → w'.cell? ⟨b, o, none⟩ = wr.cell? ⟨b, o, none⟩) ∧ Only (· = g) wr w') (exact stillG (by (repeat (first | (with_reducible exact Only.refl _ _) | (with_reducible assumption) | (with_reducible refine o_drew ?_) | (with_reducible refine o_drewN ?_ _) | (with_reducible refine o_alloc ?_ _) | (with_reducible refine o_call ?_ (by with_reducible assumption)) | (with_reducible refine o_below ?_ (by with_reducible assumption)))))) (first
        | (go_at_call 25; refine (ufunion_any p g n _ x y _ hn ⟨bx1, bx2⟩ ⟨by1, by2⟩ (HU.out.below (by (repeat (first | (with_reducible exact Below.refl _ _) | (with_reducible assumption) | (with_reducible refine b_drew ?_) | (with_reducible refine b_drewN ?_ _) | (with_reducible refine b_alloc ?_ _) | ((with_reducible refine b_set ?_ ?_ _); rotate_left; (focus (first | omega | (simp; done) | (simp; omega) | (simp at *; omega)))) | (with_reducible refine b_call ?_ (by with_reducible assumption))))))).mono ?_; rintro e w2 ⟨rfl, U2, O2⟩; have U2 := Lib.hid U2))
      go_wp2
      go_roundw
      case rel => exact ⟨k + 1, by omega, by go_num, Lib.hid (by rw [EF.out]; exact U2.out), o_call hO (by (repeat (first | (with_reducible exact Only.refl _ _) | (with_reducible assumption) | (with_reducible refine o_drew ?_) | (with_reducible refine o_drewN ?_ _) | (with_reducible refine o_alloc ?_ _) | (with_reducible refine o_call ?_ (by with_reducible assumption)) | (with_reducible refine o_below ?_ (by with_reducible assumption)))))⟩
      case measure => simp [intOf]; omega
    · obtain rfl : m = k := by omega
      have EF := Lib.hid (show E.take m = E from by rw [List.take_of_length_le (by rw [HLM.out]; omega)])
      go_wp2
      go_ret
      exact ⟨p, g, rfl, hp, hg, by rw [← EF.out]; exact HU.out, below_only hb1 hO hg⟩

theorem same_nat {K : Nat} {F : Nat → Nat} {a b : Nat} (ha : a < K) (hb : b < K) : sameU K F (a : Int) (b : Int) = decide (F a = F b) := by
  simp [sameU, inR, ha, hb]
theorem same_out {K : Nat} {F : Nat → Nat} {a b : Int} (h : inR K a = false ∨ inR K b = false) : sameU K F a b = false := by
  rcases h with h | h <;> simp [sameU, h]
theorem uni_after {K : Nat} {E : List (Int × Int)} {a b : Int} (h : (a, b) ∈ E) : uniB K (foldU K idU E) a b = false := by
  unfold uniB
  by_cases ha : inR K a = true
  · by_cases hb : inR K b = true
    · rw [ha, hb]
      simp [foldU_hit h ha hb]
    · simp [hb]
  · simp [ha]
theorem same_after {K : Nat} {E : List (Int × Int)} {a b : Int} (h : (a, b) ∈ E) (ha : inR K a = true) (hb : inR K b = true) : sameU K (foldU K idU E) a b = true := by
  unfold sameU
  rw [ha, hb]
  simp [foldU_hit h ha hb]

set_option maxRecDepth 100000 in
set_option maxHeartbeats 8000000 in
theorem equivalence_walk (a0 : Int) (A : Option Addr) (n c : Nat) (l : List Int) (w : World) (ha : -9223372036854775808 ≤ a0 ∧ a0 ≤ 9223372036854775807)
    (nc : n ≤ c) (cm : c ≤ maxLen) (ln : l.length = n) (rd : Rd w w.heap.size 1 A n (l.map (Value.int .i64))) (wf : ∀ x ∈ l, (Lit.int .i64 x).wf = true) :
    Calls Try.prog 9 #[.int .i64 a0, .slice A n c] w fun e w' => e = .returned (.bool true) ∧ Below w.heap.size w w' := by
  have RD := Lib.hid rd
  have H64 := Lib.hid (fun x hx => bounds_i64 (wf x hx))
  have hn : n ≤ 9223372036854775807 := by unfold maxLen at cm; omega
  obtain ⟨K, hK, hK14⟩ := size_nat a0
  have HK := Lib.hid hK
  have HB := Lib.hid (edgesOf_bd l)
  have HOK := Lib.hid (edgesOf_ok l)
  have hm30 : min n 30 ≤ 30 := Nat.min_le_right _ _
  have HM := Lib.hid (show (edgesOf l).length = min n 30 from by unfold edgesOf; rw [List.length_take, List.length_map, ln, Nat.min_comm])
  clear rd wf nc cm ln hK
  go_enter Try.func9, Try.ntmps9
  go_wp2_with fail
  refine (size_any a0 _ ha.1 ha.2).mono ?_
  rintro e w_ ⟨rfl, rfl⟩
  rw [HK.out]
  go_wp2_with fail
  refine (edges_any A n c l _ H64.out RD.out hn).mono ?_
  rintro e w1 ⟨A2, c2, rfl, hc2, hm2, own2, hb1⟩
  have O2 := Lib.hid own2
  clear own2
  have R2 := Lib.hid (show Rd w1 w1.heap.size 2 A2 (min n 30) (flat2 (edgesOf l)) from rd_own O2.out)
  generalize min n 30 = m at *
  go_wp2_with fail
  refine (merged_any K A2 m c2 (edgesOf l) _ (by omega) (by omega) HOK.out R2.out (fun ad he => (own_blk O2.out ad he).2)).mono ?_
  rintro e w2 ⟨p, g, rfl, hp, hg, U2, hb2⟩
  have U2 := Lib.hid U2
  have RN := Lib.hid (show RdN w2 g 2 A2 m (flat2 (edgesOf l)) from ⟨rd_step R2.out hb2, fun ad he => by have := (own_blk O2.out ad he).2; omega⟩)
  have hB2 : Below w.heap.size w w2 := by (repeat (first | (with_reducible exact Below.refl _ _) | (with_reducible assumption) | (with_reducible refine b_drew ?_) | (with_reducible refine b_drewN ?_ _) | (with_reducible refine b_alloc ?_ _) | ((with_reducible refine b_set ?_ ?_ _); rotate_left; (focus (first | omega | (simp; done) | (simp; omega) | (simp at *; omega)))) | (with_reducible refine b_call ?_ (by with_reducible assumption))))
  have hgw : w.heap.size ≤ g := by have := hb1.size; omega
  have HUN := Lib.hid (fun a b h => uni_after (K := K) (E := edgesOf l) (a := a) (b := b) h)
  have HSA := Lib.hid (fun a b h ha hb => same_after (K := K) (E := edgesOf l) (a := a) (b := b) h ha hb)
  clear hb1 hb2 O2 R2 RD
  generalize foldU K idU (edgesOf l) = F at *
  go_wp2
  go_loopw [8] (fun i wr => ∃ k : Nat, k ≤ m ∧ i = .int .i64 k ∧ Hid (Ufs wr p g K F) ∧ Only (· = g) w2 wr) (fun i _ => m - (intOf i).toNat)
  case atStart => exact ⟨0, by omega, rfl, U2, Only.refl _ _⟩
  case round =>
    obtain ⟨k, hk, rfl, HU, hO⟩ := hrel
    have RV := RN.out.only hO
    by_cases hlt : k < m
    · obtain ⟨b, o, hl, rfl, hb, hc0, hc1⟩ := RV.1.openEdge hlt
      have hmem := Lib.hid (List.getElem_mem hl)
      have hbd := HB.out _ hmem.out
      obtain ⟨⟨x, y⟩, hxe⟩ : ∃ x, (edgesOf l)[k] = x := ⟨_, rfl⟩
      rw [hxe] at hc0 hc1 hbd hmem
      clear hxe RV
      obtain ⟨⟨bx1, bx2⟩, by1, by2⟩ := hbd
      have HU1 := Lib.hid (HUN.out x y hmem.out)
      by_cases h1 : 0 ≤ x <;> by_cases h2 : x < (K : Int) <;> by_cases h3 : y < (K : Int)
      all_goals
        have HQ : ∃ q, sameU K F x y = q ∧ q = (decide (0 ≤ x) && decide (x < (K : Int)) && decide (y < (K : Int))) := by
          refine ⟨_, rfl, ?_⟩
          by_cases hi : inR K x = true ∧ inR K y = true
          · rw [HSA.out x y hmem.out hi.1 hi.2]
            have e1 : 0 ≤ x ∧ x < K := by simpa [inR] using hi.1
            have e2 : 0 ≤ y ∧ y < K := by simpa [inR] using hi.2
            simp [e1, e2]
          · rw [same_out (by
              rcases Classical.em (inR K x = true) with h | h
              · exact .inr (by simpa using fun h' => hi ⟨h, h'⟩)
              · exact .inl (by simpa using h))]
            simp only [inR] at hi
            by_cases e1 : 0 ≤ x <;> by_cases e2 : x < (K : Int) <;> by_cases e3 : y < (K : Int) <;> simp_all
        obtain ⟨q, hq, hqv⟩ := HQ
        have HQ := Lib.hid hq
        simp only [h1, h2, h3, decide_true, decide_false, Bool.and_true, Bool.and_false, Bool.and_self] at hqv
        subst hqv
        clear hq
        go_wp2_with fail
        refine (ufsame_is p g K F x y _ _ HQ.out (by omega) (by omega) (by omega) HU.out).mono ?_
        rintro e w3 ⟨rfl, U3, O3⟩
        have U3 := Lib.hid U3
        go_wp2_with fail
        refine (ufunion_is p g K F x y _ false F HU1.out (uni_not HU1.out) (by omega) (by omega) (by omega) U3.out).mono ?_
        rintro e w4 ⟨rfl, U4, O4⟩
        have U4 := Lib.hid U4
        go_wp2
        go_roundw
        case rel => exact ⟨k + 1, by omega, by go_num, U4, o_call (o_call hO O3) O4⟩
        case measure => simp [intOf]; omega
    · clear RV
      go_wp2
      obtain ⟨X, rfl⟩ : ∃ X : World, X = wr := ⟨_, rfl⟩
      go_loopw [12] (fun i wr => ∃ k : Nat, k ≤ K ∧ i = .int .i64 k ∧ Hid (Ufs wr p g K F) ∧ Only (· = g) X wr) (fun i _ => K - (intOf i).toNat)
      case atStart => exact ⟨0, by omega, rfl, HU, Only.refl _ _⟩
      case round =>
        obtain ⟨Y, rfl⟩ : ∃ Y : World, Y = wr := ⟨_, rfl⟩
        obtain ⟨a, hka, rfl, HUa, hOa⟩ := hrel
        by_cases hla : a < K
        · have Q1 := Lib.hid (show sameU K F a a = true from by rw [same_nat hla hla]; simp)
          have Q2 := Lib.hid (show sameU K F a K = false from same_out (.inr (by simp [inR])))
          have Q3 := Lib.hid (show sameU K F (-1) a = false from same_out (.inl (by simp [inR])))
          go_wp2_with fail
          refine (ufsame_is p g K F a a _ true Q1.out (by omega) (by omega) (by omega) HUa.out).mono ?_
          rintro e w3 ⟨rfl, U3, O3⟩
          have U3 := Lib.hid U3
          go_wp2_with fail
          refine (ufsame_is p g K F a K _ false Q2.out (by omega) (by omega) (by omega) U3.out).mono ?_
          rintro e w4 ⟨rfl, U4, O4⟩
          have U4 := Lib.hid U4
          go_wp2_with fail
          refine (ufsame_is p g K F (-1) a _ false Q3.out (by omega) (by omega) (by omega) U4.out).mono ?_
          rintro e w5 ⟨rfl, U5, O5⟩
          have U5 := Lib.hid U5
          go_wp2
          go_loopw [13] (fun i wr => ∃ k : Nat, k ≤ K ∧ i = .int .i64 k ∧ Hid (Ufs wr p g K F) ∧ Only (· = g) w5 wr) (fun i _ => K - (intOf i).toNat)
          case atStart => exact ⟨0, by omega, rfl, U5, Only.refl _ _⟩
          case round =>
            obtain ⟨Z, rfl⟩ : ∃ Z : World, Z = wr := ⟨_, rfl⟩
            obtain ⟨b, hkb, rfl, HUb, hOb⟩ := hrel
            by_cases hlb : b < K
            · obtain ⟨q, hq⟩ : ∃ q, decide (F a = F b) = q := ⟨_, rfl⟩
              have QA := Lib.hid (show sameU K F a b = q from by rw [same_nat hla hlb]; exact hq)
              have QB := Lib.hid (show sameU K F b a = q from by rw [same_nat hlb hla, ← hq, decide_eq_decide]; exact eq_comm)
              have hqq : (q != q) = false := by simp
              have HQ := Lib.hid hq
              clear hq
              go_wp2_with fail
              refine (ufsame_is p g K F a b _ q QA.out (by omega) (by omega) (by omega) HUb.out).mono ?_
              rintro e w6 ⟨rfl, U6, O6⟩
              have U6 := Lib.hid U6
              go_wp2_with fail
              refine (ufsame_is p g K F b a _ q QB.out (by omega) (by omega) (by omega) U6.out).mono ?_
              rintro e w7 ⟨rfl, U7, O7⟩
              have U7 := Lib.hid U7
              go_wp2
              go_loopw [14] (fun i wr => ∃ k : Nat, k ≤ K ∧ i = .int .i64 k ∧ Hid (Ufs wr p g K F) ∧ Only (· = g) w7 wr) (fun i _ => K - (intOf i).toNat)
              case atStart => exact ⟨0, by omega, rfl, U7, Only.refl _ _⟩
              case round =>
                obtain ⟨d, hkd, rfl, HUd, hOd⟩ := hrel
                by_cases hld : d < K
                · by_cases e1 : F a = F b
                  · by_cases e2 : F b = F d
                    · have Q1 := Lib.hid (show sameU K F a b = true from by rw [same_nat hla hlb]; simpa using e1)
                      have Q2 := Lib.hid (show sameU K F b d = true from by rw [same_nat hlb hld]; simpa using e2)
                      have Q3 := Lib.hid (show sameU K F a d = true from by rw [same_nat hla hld]; simpa using e1.trans e2)
                      clear e1 e2
                      go_wp2_with fail
                      refine (ufsame_is p g K F a b _ true Q1.out (by omega) (by omega) (by omega) HUd.out).mono ?_
                      rintro e w11 ⟨rfl, U11, O11⟩
                      have U11 := Lib.hid U11
                      go_wp2_with fail
                      refine (ufsame_is p g K F b d _ true Q2.out (by omega) (by omega) (by omega) U11.out).mono ?_
                      rintro e w12 ⟨rfl, U12, O12⟩
                      have U12 := Lib.hid U12
                      go_wp2_with fail
                      refine (ufsame_is p g K F a d _ true Q3.out (by omega) (by omega) (by omega) U12.out).mono ?_
                      rintro e w13 ⟨rfl, U13, O13⟩
                      have U13 := Lib.hid U13
                      go_wp2
                      go_roundw
                      case rel => exact ⟨d + 1, by omega, by go_num, U13, o_call (o_call (o_call hOd O11) O12) O13⟩
                      case measure => simp [intOf]; omega
                    · have Q1 := Lib.hid (show sameU K F a b = true from by rw [same_nat hla hlb]; simpa using e1)
                      have Q2 := Lib.hid (show sameU K F b d = false from by rw [same_nat hlb hld]; simpa using e2)
                      clear e1 e2
                      go_wp2_with fail
                      refine (ufsame_is p g K F a b _ true Q1.out (by omega) (by omega) (by omega) HUd.out).mono ?_
                      rintro e w11 ⟨rfl, U11, O11⟩
                      have U11 := Lib.hid U11
                      go_wp2_with fail
                      refine (ufsame_is p g K F b d _ false Q2.out (by omega) (by omega) (by omega) U11.out).mono ?_
                      rintro e w12 ⟨rfl, U12, O12⟩
                      have U12 := Lib.hid U12
                      go_wp2
                      go_roundw
                      case rel => exact ⟨d + 1, by omega, by go_num, U12, o_call (o_call hOd O11) O12⟩
                      case measure => simp [intOf]; omega
                  · have Q1 := Lib.hid (show sameU K F a b = false from by rw [same_nat hla hlb]; simpa using e1)
                    clear e1
                    go_wp2_with fail
                    refine (ufsame_is p g K F a b _ false Q1.out (by omega) (by omega) (by omega) HUd.out).mono ?_
                    rintro e w11 ⟨rfl, U11, O11⟩
                    have U11 := Lib.hid U11
                    go_wp2
                    go_roundw
                    case rel => exact ⟨d + 1, by omega, by go_num, U11, o_call hOd O11⟩
                    case measure => simp [intOf]; omega

                · go_wp2
                  go_roundw
                  case rel => exact ⟨b + 1, by omega, by go_num, HUd, o_call (o_call (o_call hOb O6) O7) hOd⟩
                  case measure => simp [intOf]; omega
            · go_wp2
              go_roundw
              case rel => exact ⟨a + 1, by omega, by go_num, HUb, o_call (o_call (o_call (o_call hOa O3) O4) O5) hOb⟩
              case measure => simp [intOf]; omega
        · have hBY : Below w.heap.size w Y := below_only (below_only hB2 hO hgw) hOa hgw
          go_wp2_with fail
          refine (lives_any _).mono ?_
          rintro e w9 ⟨rfl, hb9⟩
          go_wp2
          go_ret
          exact ⟨rfl, hBY.trans (Below.mono (by (repeat (first | (with_reducible exact Below.refl _ _) | (with_reducible assumption) | (with_reducible refine b_drew ?_) | (with_reducible refine b_drewN ?_ _) | (with_reducible refine b_alloc ?_ _) | ((with_reducible refine b_set ?_ ?_ _); rotate_left; (focus (first | omega | (simp; done) | (simp; omega) | (simp at *; omega)))) | (with_reducible refine b_call ?_ (by with_reducible assumption))))) hBY.size)⟩
end Go.Proofs.Ytjmhibjkbnbefaa
