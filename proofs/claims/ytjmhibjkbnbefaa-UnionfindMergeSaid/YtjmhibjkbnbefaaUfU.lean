/-
  WHAT IS PROVED HERE: the walk of the law UnionfindMerge: it returns true at every input, and leaves old memory as it was. Conditions: the arguments' lengths are a machine's.
-/
import Derived.Test.YtjmhibjkbnbefaaUfT
namespace Go.Proofs.Ytjmhibjkbnbefaa
set_option linter.unusedVariables false
open Go.ChangeShapes Go.WideShapes Go.ChangeAt Go.RowKit

theorem own_empty (w : World) (e : TypeId) {base sz : Nat} (hb : base ≤ w.heap.size) : (w.alloc (.cells #[] e)).ownsRow base e sz (.slice (some ⟨w.heap.size, 0, none⟩) 0 0) 0 [] :=
  own_shut hb (Vr.new w e #[]) (by simp) (by simp) (Nat.le_refl _) (Nat.zero_le _) (by simp)
/-- How many of the first i groups are gone. -/
def gone (G G' : List (List Int)) (i : Nat) : Nat := ((G.take i).filter fun r => !decide (r ∈ G')).length

set_option maxRecDepth 100000 in
set_option maxHeartbeats 8000000 in
theorem merge_walk (a0 : Int) (A : Option Addr) (n c : Nat) (l : List Int) (a b : Int) (w : World) (ha0 : -9223372036854775808 ≤ a0 ∧ a0 ≤ 9223372036854775807)
    (nc : n ≤ c) (cm : c ≤ maxLen) (ln : l.length = n) (rd : Rd w w.heap.size 1 A n (l.map (Value.int .i64))) (wf : ∀ x ∈ l, (Lit.int .i64 x).wf = true)
    (ha : -9223372036854775808 ≤ a ∧ a ≤ 9223372036854775807) (hb : -9223372036854775808 ≤ b ∧ b ≤ 9223372036854775807) :
    Calls Try.prog 6 #[.int .i64 a0, .slice A n c, .int .i64 a, .int .i64 b] w fun e w' => e = .returned (.bool true) ∧ Below w.heap.size w w' := by
  have RD := Lib.hid rd
  have H64 := Lib.hid (fun x hx => bounds_i64 (wf x hx))
  have hn : n ≤ 9223372036854775807 := by unfold maxLen at cm; omega
  obtain ⟨K, hK, hK14⟩ := size_nat a0
  have HK := Lib.hid hK
  have HOK := Lib.hid (edgesOf_ok l)
  have hm30 : min n 30 ≤ 30 := Nat.min_le_right _ _
  have hxb := around_bd a 15 (by omega)
  have hyb := around_bd b 15 (by omega)
  obtain ⟨x, hx⟩ : ∃ x, around a 15 = x := ⟨_, rfl⟩
  obtain ⟨y, hy⟩ : ∃ y, around b 15 = y := ⟨_, rfl⟩
  rw [hx] at hxb
  rw [hy] at hyb
  have HX := Lib.hid hx
  have HY := Lib.hid hy
  have HF := Lib.hid (show MergeFacts (groupsI (foldU K idU (edgesOf l)) K) (groupsI (uniF K (foldU K idU (edgesOf l)) x y) K) x y from merge_facts (foldU_part part_id K (edgesOf l)) K x y)
  have HE' := Lib.hid (show EdgeBd (edgesOf l ++ [(x, y)]) from by
    intro e he
    rcases List.mem_append.1 he with h | h
    · exact edgesOf_ok l e h
    · simp at h
      subst h
      exact ⟨by simp only; omega, by simp only; omega⟩)
  have HS1 := Lib.hid (groups_small (f := foldU K idU (edgesOf l)) (n := K) (by omega))
  have HS2 := Lib.hid (groups_small (f := uniF K (foldU K idU (edgesOf l)) x y) (n := K) (by omega))
  have HSN := Lib.hid (show foldU K idU (edgesOf l ++ [(x, y)]) = uniF K (foldU K idU (edgesOf l)) x y from foldU_snoc K idU (edgesOf l) (x, y))
  clear rd wf nc cm ln hK hx hy
  go_enter Try.func6, Try.ntmps6
  go_wp2_with fail
  refine (size_any a0 _ ha0.1 ha0.2).mono ?_
  rintro e w_ ⟨rfl, rfl⟩
  rw [HK.out]
  go_wp2_with fail
  refine (edges_any A n c l _ H64.out RD.out hn).mono ?_
  rintro e w1 ⟨A2, c2, rfl, hc2, hm2, own2, hb1⟩
  have R2 := Lib.hid (show Rd w1 w1.heap.size 2 A2 (min n 30) (flat2 (edgesOf l)) from rd_own own2)
  clear own2
  go_wp2_with fail
  refine (around_any a 15 _ ha.1 ha.2 (by omega) (by omega)).mono ?_
  rintro e w_ ⟨rfl, rfl⟩
  rw [HX.out]
  go_wp2_with fail
  refine (around_any b 15 _ hb.1 hb.2 (by omega) (by omega)).mono ?_
  rintro e w_ ⟨rfl, rfl⟩
  rw [HY.out]
  go_wp2_with fail
  refine (islands_any K A2 _ c2 (edgesOf l) _ (by omega) (by omega) HOK.out R2.out).mono ?_
  rintro e w3 ⟨A3, c3, vs3, rfl, hc3, hm3, own3, rows3, hb3⟩
  have R3 := Lib.hid (RdRows.of own3 rfl rows3)
  have R4 := Lib.hid (rd_step R2.out hb3)
  have hB3 : Below w.heap.size w w3 := by (repeat (first | (with_reducible exact Below.refl _ _) | (with_reducible assumption) | (with_reducible refine b_drew ?_) | (with_reducible refine b_drewN ?_ _) | (with_reducible refine b_alloc ?_ _) | ((with_reducible refine b_set ?_ ?_ _); rotate_left; (focus (first | omega | (simp; done) | (simp; omega) | (simp at *; omega)))) | (with_reducible refine b_call ?_ (by with_reducible assumption))))
  clear own3 rows3 R2
  generalize min n 30 = m at *
  have hz3 := hB3.size
  have EE := Lib.hid (own_empty w3 32 (base := w3.heap.size) (sz := 2) (Nat.le_refl _))
  have RR := Lib.hid (R4.out.below (b_alloc (Below.refl _ _) (.cells #[] 32)) (Nat.le_refl _))
  go_wp2_with (first
    | (at_builtin; refine wpList_app _ rfl (.tmp 31) (.tmp 32) slEdge rfl rfl EE.out rfl RR.out (flat2_cell _) m (by omega) (by unfold maxLen; omega) (by omega) (by simp) ?_; intro A5 c5 w4 g1 g2 g3 g4 g5; have O4 := Lib.hid g3; have hB4 := below_app (b_alloc (Below.refl _ _) (.cells #[] 32)) EE.out g4 (Nat.le_refl _) (by simp); have hz4 := hB4.size; clear g1 g2 g3 g4 g5)
    | (at_builtin; refine wpList_app _ rfl (.tmp 33) (.tmp 37) slEdge rfl rfl (O4.out.alloc _) rfl (rd_lit _ _ _ rfl rfl) (by intro u hu; simp at hu; rcases hu with rfl | rfl <;> rfl) (m + 1) rfl (by unfold maxLen; omega) (by omega) (by simp; omega) ?_; intro A6 c6 w5 g1 g2 g3 g4 g5; have O5 := Lib.hid g3; have hB5 := below_app (b_alloc hB4 _) (O4.out.alloc _) g4 (Nat.le_refl _) (by simp; omega); clear g1 g2 g3 g4 g5)
    | (go_at_call 14; refine (islands_any K A6 (m + 1) c6 (edgesOf l ++ [(x, y)]) _ (by omega) (by omega) HE'.out (by have h := rd_own O5.out; rw [flat2_append, flat2_one]; exact h)).mono ?_; rintro e w6 ⟨A7, c7, vs7, rfl, hc7, hm7, own7, rows7, hb7⟩; have R7 := Lib.hid (RdRows.of own7 rfl rows7); clear own7 rows7))
  have hB6 : Below w.heap.size w w6 := hB3.trans ((hB5.trans (hb7.mono (by have := hB5.size; omega))).mono hz3)
  have R36 := Lib.hid (R3.out.step (hB5.trans (hb7.mono (by have := hB5.size; omega))))
  rw [HSN.out] at R7 hc7 ⊢
  have hfin := HF.out.fin
  have HFF := Lib.hid HF.out.fresh
  obtain ⟨G, hG⟩ : ∃ G, groupsI (foldU K idU (edgesOf l)) K = G := ⟨_, rfl⟩
  rw [hG] at hfin HFF R36 HS1 hc3 ⊢
  clear hG HF R3 HSN RD H64 O4 O5 EE RR R4 HE'
  generalize groupsI (uniF K (foldU K idU (edgesOf l)) x y) K = G' at *
  have HFIN := Lib.hid hfin
  have hGl : G.length ≤ 100000 := HS1.out.1
  have hGl' : G'.length ≤ 100000 := HS2.out.1
  obtain ⟨h, hh⟩ : ∃ h, G.length = h := ⟨_, rfl⟩
  obtain ⟨h', hh'⟩ : ∃ h, G'.length = h := ⟨_, rfl⟩
  rw [hh] at hGl hc3 R36 ⊢
  rw [hh'] at hGl' hc7 R7 ⊢
  have HH := Lib.hid (And.intro hh hh')
  clear hfin hh hh' hb1 hb3 hB3 hB4 hB5 hb7 hz3 hz4
  go_loopw [15, 16] (fun s15 s16 wr => ∃ (i J : Nat), i ≤ h ∧ J ≤ i ∧ s16 = .int .i64 i ∧ s15 = .int .i64 J ∧ Hid (J = gone G G' i) ∧ Below w6.heap.size w6 wr) (fun _ i _ => h - (intOf i).toNat)
  case atStart => exact ⟨0, 0, by omega, by omega, rfl, rfl, Lib.hid (by simp [gone]), Below.refl _ _⟩
  case round =>
    obtain ⟨Y, rfl⟩ : ∃ Y : World, Y = wr := ⟨_, rfl⟩
    obtain ⟨i, J, hi, hJi, rfl, rfl, HJ, hB⟩ := hrel
    by_cases hlt : i < h
    · have hGi : i < G.length := by rw [HH.out.1]; exact hlt
      have HFT := Lib.hid (filter_take_step (p := fun r => !decide (r ∈ G')) (d := []) hGi)
      have HMEM := Lib.hid (show G.getD i [] ∈ G from by rw [List.getD_eq_getElem?_getD, List.getElem?_eq_getElem hGi]; exact List.getElem_mem hGi)
      have hL := HS1.out.at i
      clear hGi
      go_wp2
      go_loopw [17, 18] (fun s17 s18 wr => ∃ (j : Nat) (q : Bool), j ≤ h' ∧ s18 = .int .i64 j ∧ s17 = .bool q ∧ Hid (decide (G.getD i [] ∈ G'.take j) = q) ∧ Below w6.heap.size w6 wr) (fun _ j _ => h' - (intOf j).toNat)
      case atStart => exact ⟨0, false, by omega, rfl, rfl, Lib.hid (by simp), hB⟩
      case round =>
        obtain ⟨V, rfl⟩ : ∃ V : World, V = wr := ⟨_, rfl⟩
        obtain ⟨j, q, hj, rfl, rfl, HQ, hBV⟩ := hrel
        by_cases hjl : j < h'
        · have HMS := Lib.hid (mem_take_step (x := G.getD i []) (d := []) (show j < G'.length from by rw [HH.out.2]; exact hjl))
          rcases q with _ | _
          · obtain ⟨b1, o1, A8, c8, rfl, hbb, hc1, hr1⟩ := (R36.out.step hBV).open hlt
            obtain ⟨b2, o2, A9, c9, rfl, hbb2, hc2', hr2⟩ := (R7.out.step hBV).open hjl
            have hL2 := HS2.out.at j
            have HR1 := Lib.hid hr1
            have HR2 := Lib.hid hr2
            clear hr1 hr2
            obtain ⟨q2, hq2⟩ : ∃ q, decide (G.getD i [] = G'.getD j []) = q := ⟨_, rfl⟩
            have HQ2 := Lib.hid hq2
            clear hq2
            go_wp2_with fail
            go_region_held3 (fun w' => (∀ b o, b < V.heap.size → w'.cell? ⟨b, o, none⟩ = V.cell? ⟨b, o, none⟩) ∧ Below V.heap.size V w') (first | exact still_call (by assumption) (by assumption) | exact still_drew0 _ | exact still_drew (by assumption) | exact still_alloc (by assumption) _ | exact still_of (by (repeat (first | (with_reducible exact Below.refl _ _) | (with_reducible assumption) | (with_reducible refine b_drew ?_) | (with_reducible refine b_drewN ?_ _) | (with_reducible refine b_alloc ?_ _) | ((with_reducible refine b_set ?_ ?_ _); rotate_left; (focus (first | omega | (simp; done) | (simp; omega) | (simp at *; omega)))) | (with_reducible refine b_call ?_ (by with_reducible assumption)))))) (first
              | (go_at_call 19; refine (sameints_is A8 A9 _ c8 _ c9 _ _ _ q2 (rd_step HR1.out (by (repeat (first | (with_reducible exact Below.refl _ _) | (with_reducible assumption) | (with_reducible refine b_drew ?_) | (with_reducible refine b_drewN ?_ _) | (with_reducible refine b_alloc ?_ _) | ((with_reducible refine b_set ?_ ?_ _); rotate_left; (focus (first | omega | (simp; done) | (simp; omega) | (simp at *; omega)))) | (with_reducible refine b_call ?_ (by with_reducible assumption)))))) (rd_step HR2.out (by (repeat (first | (with_reducible exact Below.refl _ _) | (with_reducible assumption) | (with_reducible refine b_drew ?_) | (with_reducible refine b_drewN ?_ _) | (with_reducible refine b_alloc ?_ _) | ((with_reducible refine b_set ?_ ?_ _); rotate_left; (focus (first | omega | (simp; done) | (simp; omega) | (simp at *; omega)))) | (with_reducible refine b_call ?_ (by with_reducible assumption)))))) (by omega) (by omega) HQ2.out).mono ?_; rintro e w8 ⟨rfl, hb8⟩))
            go_wp2
            go_roundw
            case rel => exact ⟨j + 1, q2, by omega, by go_num, rfl, Lib.hid (by rw [HMS.out, HQ.out, HQ2.out]; rfl), hBV.trans ((b_call (b_drew (Below.refl _ _)) hb8).mono hBV.size)⟩
            case measure => simp [intOf]; omega
          · go_wp2_with fail
            go_quiet (fail)
            go_wp2
            go_roundw
            case rel => exact ⟨j + 1, true, by omega, by go_num, rfl, Lib.hid (by rw [HMS.out, HQ.out]; rfl), below_drewN hBV _⟩
            case measure => simp [intOf]; omega
        · obtain rfl : j = h' := by omega
          have HQF := Lib.hid (show decide (G.getD i [] ∈ G') = q from by
            have h := HQ.out
            rwa [List.take_of_length_le (by rw [HH.out.2]; omega)] at h)
          rcases q with _ | _
          · have HJ1 := Lib.hid (show J + 1 = gone G G' (i + 1) from by
              unfold gone
              rw [HFT.out, HJ.out, HQF.out]
              rfl)
            obtain ⟨b1, o1, A8, c8, rfl, hbb, hc1, hr1⟩ := (R36.out.step hBV).open hlt
            have HR1 := Lib.hid hr1
            have hff := HFF.out _ HMEM.out (by simpa using HQF.out)
            rw [← hasB_eq, ← hasB_eq] at hff
            obtain ⟨q1, hq1⟩ : ∃ q, hasB (G.getD i []) x = q := ⟨_, rfl⟩
            obtain ⟨q2, hq2⟩ : ∃ q, hasB (G.getD i []) y = q := ⟨_, rfl⟩
            rw [hq1, hq2] at hff
            clear hr1
            generalize G.getD i [] = row at *
            go_wp2_with fail
            go_region_held3 (fun w' => (∀ b o, b < V.heap.size → w'.cell? ⟨b, o, none⟩ = V.cell? ⟨b, o, none⟩) ∧ Below V.heap.size V w') (first | exact still_call (by assumption) (by assumption) | exact still_drew0 _ | exact still_drew (by assumption) | exact still_alloc (by assumption) _ | exact still_of (by (repeat (first | (with_reducible exact Below.refl _ _) | (with_reducible assumption) | (with_reducible refine b_drew ?_) | (with_reducible refine b_drewN ?_ _) | (with_reducible refine b_alloc ?_ _) | ((with_reducible refine b_set ?_ ?_ _); rotate_left; (focus (first | omega | (simp; done) | (simp; omega) | (simp at *; omega)))) | (with_reducible refine b_call ?_ (by with_reducible assumption)))))) (first
              | (go_at_call 18; refine (has_b A8 _ c8 row _ _ (by omega) (rd_step HR1.out (by (repeat (first | (with_reducible exact Below.refl _ _) | (with_reducible assumption) | (with_reducible refine b_drew ?_) | (with_reducible refine b_drewN ?_ _) | (with_reducible refine b_alloc ?_ _) | ((with_reducible refine b_set ?_ ?_ _); rotate_left; (focus (first | omega | (simp; done) | (simp; omega) | (simp at *; omega)))) | (with_reducible refine b_call ?_ (by with_reducible assumption))))))).mono ?_; rintro e w_ ⟨rfl, rfl⟩))
            all_goals
              go_wp2
              go_roundw
              case rel => exact ⟨i + 1, J + 1, by omega, by omega, by go_num, by go_num, HJ1, by first | exact hBV | exact hBV.drew | exact below_drewN hBV _⟩
              case measure => simp [intOf]; omega
          · have HJ1 := Lib.hid (show J = gone G G' (i + 1) from by
              unfold gone
              rw [HFT.out, HJ.out, HQF.out]
              rfl)
            go_wp2
            go_roundw
            case rel => exact ⟨i + 1, J, by omega, by omega, by go_num, rfl, HJ1, hBV⟩
            case measure => simp [intOf]; omega
    · obtain rfl : i = h := by omega
      have hJF : (J = 0 ∧ h' = i) ∨ (J = 2 ∧ h' + 1 = i) := by
        have h1 := HFIN.out
        have h2 := HJ.out
        unfold gone at h2
        rw [List.take_of_length_le (by rw [HH.out.1]; omega)] at h2
        rw [HH.out.1, HH.out.2] at h1
        omega
      have hBY := b_call hB6 hB
      clear hJi hlt
      rcases hJF with ⟨rfl, rfl⟩ | ⟨rfl, rfl⟩
      · have _t : True := trivial
        go_wp2_with fail
        refine (lives_any _).mono ?_
        rintro e w9 ⟨rfl, hb9⟩
        go_wp2
        go_ret
        exact ⟨rfl, by (repeat (first | (with_reducible exact Below.refl _ _) | (with_reducible assumption) | (with_reducible refine b_drew ?_) | (with_reducible refine b_drewN ?_ _) | (with_reducible refine b_alloc ?_ _) | ((with_reducible refine b_set ?_ ?_ _); rotate_left; (focus (first | omega | (simp; done) | (simp; omega) | (simp at *; omega)))) | (with_reducible refine b_call ?_ (by with_reducible assumption))))⟩
      · have _t : True := trivial
        go_wp2_with fail
        refine (lives_any _).mono ?_
        rintro e w9 ⟨rfl, hb9⟩
        go_wp2
        go_ret
        exact ⟨rfl, by (repeat (first | (with_reducible exact Below.refl _ _) | (with_reducible assumption) | (with_reducible refine b_drew ?_) | (with_reducible refine b_drewN ?_ _) | (with_reducible refine b_alloc ?_ _) | ((with_reducible refine b_set ?_ ?_ _); rotate_left; (focus (first | omega | (simp; done) | (simp; omega) | (simp at *; omega)))) | (with_reducible refine b_call ?_ (by with_reducible assumption))))⟩
end Go.Proofs.Ytjmhibjkbnbefaa
