/-
  WHAT IS PROVED HERE: the walk of the law UnionfindPartition: it returns true at every input, and leaves old memory as it was. Conditions: the arguments' lengths are a machine's.
-/
import Derived.Test.YtjmhibjkbnbefaaUfL
import Derived.IntWalk
namespace Go.Proofs.Ytjmhibjkbnbefaa
set_option linter.unusedVariables false
open Go.ChangeShapes Go.WideShapes Go.ChangeAt Go.RowKit

/-- The least element of group i; its members. -/
def hd (F : Nat → Nat) (K i : Nat) : Nat := (heads F K).getD i 0
def mb (F : Nat → Nat) (K i : Nat) : List Nat := memb F K (hd F K i)
/-- All members of the groups below i, and the first j of group i. -/
def allN (F : Nat → Nat) (K i j : Nat) : List Nat := ((heads F K).take i).flatMap (memb F K) ++ (mb F K i).take j
section
variable {F : Nat → Nat} {K i j : Nat}
theorem hd_mem (hi : i < (heads F K).length) : hd F K i ∈ heads F K := by
  unfold hd
  rw [List.getD_eq_getElem?_getD, List.getElem?_eq_getElem hi]
  exact List.getElem_mem hi
theorem group_row (hi : i < (heads F K).length) : (groupsI F K).getD i [] = intsI (mb F K i) := by
  unfold mb hd groupsI groupsU
  simp [List.getD_eq_getElem?_getD, hi]
theorem ints_at (l : List Nat) (hj : j < l.length) : (intsI l).getD j 0 = ((l.getD j 0 : Nat) : Int) := by
  simp [intsI, List.getD_eq_getElem?_getD, hj]
theorem mb_head (hP : Part F) (hi : i < (heads F K).length) : (mb F K i).getD 0 0 = hd F K i ∧ 0 < (mb F K i).length := by
  have h := memb_head hP (hd_mem hi)
  unfold mb
  rcases hl : memb F K (hd F K i) with _ | ⟨x, l⟩
  · rw [hl] at h; cases h
  · rw [hl] at h
    have h : x = hd F K i := by simpa using h
    simp [h]
theorem hd_lt (hi : i + 1 < (heads F K).length) : hd F K i < hd F K (i + 1) := by
  have h := (List.pairwise_iff_getElem.1 (heads_sorted F K)) i (i + 1) (by omega) hi (by omega)
  unfold hd
  simp [List.getD_eq_getElem?_getD, hi, show i < (heads F K).length from by omega]
  exact h
theorem mb_lt (hj : j + 1 < (mb F K i).length) : (mb F K i).getD j 0 < (mb F K i).getD (j + 1) 0 := by
  have h := (List.pairwise_iff_getElem.1 (memb_sorted F K (hd F K i))) j (j + 1) (by unfold mb at hj; omega) (by unfold mb at hj; omega) (by omega)
  unfold mb at hj ⊢
  simp [List.getD_eq_getElem?_getD, hj, show j < (memb F K (hd F K i)).length from by omega]
  exact h
theorem mb_is (hj : j < (mb F K i).length) : (mb F K i).getD j 0 < K ∧ F ((mb F K i).getD j 0) = hd F K i := by
  have h : (mb F K i).getD j 0 ∈ memb F K (hd F K i) := by
    unfold mb at hj ⊢
    rw [List.getD_eq_getElem?_getD, List.getElem?_eq_getElem hj]
    exact List.getElem_mem hj
  exact mem_memb.1 h
theorem all_fresh (hi : i < (heads F K).length) (hj : j < (mb F K i).length) : ¬ (mb F K i).getD j 0 ∈ allN F K i j := by
  intro h
  have hm := mb_is hj
  unfold allN at h
  rcases List.mem_append.1 h with h1 | h1
  · obtain ⟨r, hr, h2⟩ := List.mem_flatMap.1 h1
    have h3 := (mem_memb.1 h2).2
    rw [hm.2] at h3
    obtain ⟨q, hq, h4⟩ := List.mem_iff_getElem.1 hr
    rw [List.length_take] at hq
    rw [List.getElem_take] at h4
    have h5 := (List.pairwise_iff_getElem.1 (heads_sorted F K)) q i (by omega) hi (by omega)
    unfold hd at h3
    simp [List.getD_eq_getElem?_getD, hi] at h3
    omega
  · obtain ⟨q, hq, h4⟩ := List.mem_iff_getElem.1 h1
    rw [List.length_take] at hq
    rw [List.getElem_take] at h4
    have h5 := (List.pairwise_iff_getElem.1 (memb_sorted F K (hd F K i))) q j (by unfold mb at hq; omega) (by unfold mb at hj; exact hj) (by omega)
    unfold mb at h4 hj
    simp [List.getD_eq_getElem?_getD, hj] at h4
    omega
theorem all_snoc (hj : j < (mb F K i).length) : allN F K i (j + 1) = allN F K i j ++ [(mb F K i).getD j 0] := by
  unfold allN
  rw [List.take_succ_eq_append_getElem hj, List.append_assoc]
  simp [List.getD_eq_getElem?_getD, hj]
theorem all_next (hi : i < (heads F K).length) : allN F K i (mb F K i).length = allN F K (i + 1) 0 := by
  unfold allN
  rw [List.take_succ_eq_append_getElem hi, List.flatMap_append, List.take_of_length_le (Nat.le_refl _), List.take_zero, List.append_nil]
  congr 1
  simp [mb, hd, List.getD_eq_getElem?_getD, hi]
theorem all_len (hP : Part F) : (allN F K (heads F K).length 0).length = K := by
  have h := groups_total hP K
  unfold allN
  rw [List.take_of_length_le (Nat.le_refl _), List.take_zero, List.append_nil, List.length_flatMap]
  unfold groupsU at h
  rw [List.map_map] at h
  exact h
end
theorem all_zero (F : Nat → Nat) (K : Nat) : allN F K 0 0 = [] := by simp [allN]

/-- A slice of slices reads so, and none of it lies in block g. -/
def RdRowsG (w : World) (g : Nat) (A : Option Addr) (n : Nat) (rows : List (List Int)) : Prop :=
  n = rows.length ∧ ∃ vs, RdN w g 1 A n vs ∧ ∀ (i : Nat) (v : Value) (row : List Int), vs[i]? = some v → rows[i]? = some row → ∃ A' c', v = .slice A' row.length c' ∧ RdN w g 1 A' row.length (row.map (Value.int .i64))
theorem RdRowsG.only {w w' : World} {g : Nat} {A : Option Addr} {n : Nat} {rows : List (List Int)} (h : RdRowsG w g A n rows) (ho : Only (· = g) w w') : RdRowsG w' g A n rows := by
  obtain ⟨h1, vs, h2, h3⟩ := h
  refine ⟨h1, vs, h2.only ho, fun i v row hv hr => ?_⟩
  obtain ⟨A', c', e, h4⟩ := h3 i v row hv hr
  exact ⟨A', c', e, h4.only ho⟩
theorem RdRowsG.of {w : World} {g base b2 : Nat} {A : Option Addr} {n c : Nat} {vs : List Value} {rows : List (List Int)} (h : w.ownsRow base 22 1 (.slice A n c) n vs) (hn : n = rows.length) (hr : RowsOf w b2 vs rows) (hg : g < base) (hg2 : g < b2) : RdRowsG w g A n rows := by
  refine ⟨hn, vs, RdN.of_new h hg, fun i v row hv hrow => ?_⟩
  obtain ⟨A', c', e, ho⟩ := hr.2 i v row hv hrow
  subst e
  exact ⟨A', c', rfl, RdN.of_new ho hg2⟩
theorem RdRowsG.open {w : World} {g : Nat} {A : Option Addr} {n : Nat} {rows : List (List Int)} (h : RdRowsG w g A n rows) {k : Nat} (hk : k < n) :
    ∃ b o A' c', A = some ⟨b, o, none⟩ ∧ b ≠ g ∧ w.cell? ⟨b, o + k, none⟩ = some (.slice A' (rows.getD k []).length c') ∧ RdN w g 1 A' (rows.getD k []).length ((rows.getD k []).map (Value.int .i64)) := by
  obtain ⟨h1, vs, h2, h3⟩ := h
  have hl : k < vs.length := by have := h2.1.1; omega
  obtain ⟨b, o, e, hb, hc⟩ := h2.1.open1 hk
  have hr : k < rows.length := by omega
  obtain ⟨A', c', e', h4⟩ := h3 k _ _ (List.getElem?_eq_getElem hl) (List.getElem?_eq_getElem hr)
  refine ⟨b, o, A', c', e, h2.2 _ e, ?_, ?_⟩
  · rw [hc, e']
    simp [List.getD_eq_getElem?_getD, hr]
  · simpa [List.getD_eq_getElem?_getD, hr] using h4
/-- Element j of row i of such groups, opened. -/
theorem group_at {w : World} {g : Nat} {A : Option Addr} {n K : Nat} {F : Nat → Nat} (h : RdRowsG w g A n (groupsI F K)) {i j : Nat} (hi : i < n) (hj : j < (mb F K i).length) :
    ∃ b o b' o' c', A = some ⟨b, o, none⟩ ∧ b ≠ g ∧ b' ≠ g ∧ w.cell? ⟨b, o + i, none⟩ = some (.slice (some ⟨b', o', none⟩) (mb F K i).length c') ∧ ∀ q, q < (mb F K i).length → w.cell? ⟨b', o' + q, none⟩ = some (.int .i64 (((mb F K i).getD q 0 : Nat) : Int)) := by
  have hih : i < (heads F K).length := by have := h.1; rw [groupsI_len] at this; omega
  obtain ⟨b, o, A', c', e, hb, hc, hr⟩ := h.open hi
  rw [group_row hih, intsI_len] at hc hr
  obtain ⟨b', o', e', _, _⟩ := rd_at hr.1 hj
  subst e'
  exact ⟨b, o, b', o', c', e, hb, hr.2 _ rfl, hc, fun q hq => by rw [rd_at0 hr.1 hq, ints_at _ hq]⟩
theorem heads_id (K : Nat) : (heads idU K).length = K := by
  unfold heads
  rw [List.filter_eq_self.2 (by simp [idU]), List.length_range]

set_option maxRecDepth 100000 in
set_option maxHeartbeats 8000000 in
theorem partition_walk (a0 : Int) (A : Option Addr) (n c : Nat) (l : List Int) (w : World) (ha : -9223372036854775808 ≤ a0 ∧ a0 ≤ 9223372036854775807)
    (nc : n ≤ c) (cm : c ≤ maxLen) (ln : l.length = n) (rd : Rd w w.heap.size 1 A n (l.map (Value.int .i64))) (wf : ∀ x ∈ l, (Lit.int .i64 x).wf = true) :
    Calls Try.prog 10 #[.int .i64 a0, .slice A n c] w fun e w' => e = .returned (.bool true) ∧ Below w.heap.size w w' := by
  have RD := Lib.hid rd
  have H64 := Lib.hid (fun x hx => bounds_i64 (wf x hx))
  have hn : n ≤ 9223372036854775807 := by unfold maxLen at cm; omega
  obtain ⟨K, hK, hK14⟩ := size_nat a0
  have HK := Lib.hid hK
  have HB := Lib.hid (edgesOf_bd l)
  have hm30 : min n 30 ≤ 30 := Nat.min_le_right _ _
  have HM := Lib.hid (show (edgesOf l).length = min n 30 from by unfold edgesOf; rw [List.length_take, List.length_map, ln, Nat.min_comm])
  clear rd wf nc cm ln hK
  go_enter Try.func10, Try.ntmps10
  go_wp2_with fail
  refine (size_any a0 _ ha.1 ha.2).mono ?_
  rintro e w_ ⟨rfl, rfl⟩
  rw [HK.out]
  go_wp2_with fail
  refine (ufnew_any K _ (by omega)).mono ?_
  rintro e w1 ⟨p, g, rfl, hp, hg, U1, hb1⟩
  have U1 := Lib.hid U1
  have hgl := U1.out.lt.2
  go_wp2_with fail
  refine (edges_any A n c l _ H64.out (rd_step RD.out hb1) hn).mono ?_
  rintro e w2 ⟨A2, c2, rfl, hc2, hm2, own2, hb2⟩
  have RN := Lib.hid (show RdN w2 g 2 A2 (min n 30) (flat2 (edgesOf l)) from RdN.of_new own2 hgl)
  have U2 := Lib.hid (U1.out.below hb2)
  have hB2 : Below w.heap.size w w2 := by (repeat (first | (with_reducible exact Below.refl _ _) | (with_reducible assumption) | (with_reducible refine b_drew ?_) | (with_reducible refine b_drewN ?_ _) | (with_reducible refine b_alloc ?_ _) | ((with_reducible refine b_set ?_ ?_ _); rotate_left; (focus (first | omega | (simp; done) | (simp; omega) | (simp at *; omega)))) | (with_reducible refine b_call ?_ (by with_reducible assumption))))
  clear own2 hb1 hb2 U1 RD
  generalize min n 30 = m at *
  generalize edgesOf l = E at *
  go_wp2
  go_loopw [8, 9] (fun s8 i wr => ∃ (k h : Nat), k ≤ m ∧ i = .int .i64 k ∧ h ≤ K ∧ Hid ((heads (foldU K idU (E.take k)) K).length = h) ∧ s8 = .int .i64 h ∧ Hid (Ufs wr p g K (foldU K idU (E.take k))) ∧ Only (· = g) w2 wr) (fun _ i _ => m - (intOf i).toNat)
  case atStart => exact ⟨0, K, by omega, rfl, Nat.le_refl _, Lib.hid (heads_id K), rfl, U2, Only.refl _ _⟩
  case round =>
    obtain ⟨k, h, hk, rfl, hhK, HH, rfl, HU, hO⟩ := hrel
    obtain ⟨V, rfl⟩ : ∃ V : World, V = wr := ⟨_, rfl⟩
    have RV := RN.out.only hO
    by_cases hlt : k < m
    · obtain ⟨b, o, hl, rfl, hb, hc0, hc1⟩ := RV.1.openEdge hlt
      have hbg : b ≠ g := RV.2 _ rfl
      have EF := Lib.hid (fold_take (n := K) (f := idU) hl)
      have hbd := HB.out _ (List.getElem_mem hl)
      obtain ⟨⟨x, y⟩, hx⟩ : ∃ x, E[k] = x := ⟨_, rfl⟩
      rw [hx] at hc0 hc1 hbd EF
      clear hx RV
      obtain ⟨⟨bx1, bx2⟩, by1, by2⟩ := hbd
      have HP := Lib.hid HU.out.part
      generalize foldU K idU (E.take k) = f at *
      obtain ⟨f', hf'⟩ : ∃ f', uniF K f x y = f' := ⟨_, rfl⟩
      rw [hf'] at EF
      have HF' := Lib.hid hf'
      clear hf'
      rcases hq : uniB K f x y with _ | _
      · have HQ := Lib.hid hq
        have HH' := Lib.hid (show (heads f' K).length = h from by rw [← HF'.out, uni_not hq]; exact HH.out)
        clear hq
        go_wp2_with fail
        go_region_held3 (fun w' => (∀ b o, b < V.heap.size → b ≠ g → w'.cell? ⟨b, o, none⟩ = V.cell? ⟨b, o, none⟩) ∧ Only (· = g) V w') (exact stillG (by (repeat (first | (with_reducible exact Only.refl _ _) | (with_reducible assumption) | (with_reducible refine o_drew ?_) | (with_reducible refine o_drewN ?_ _) | (with_reducible refine o_alloc ?_ _) | (with_reducible refine o_call ?_ (by with_reducible assumption)) | (with_reducible refine o_below ?_ (by with_reducible assumption)))))) (first
          | (go_at_call 25; refine (ufunion_is p g K f x y _ _ f' HQ.out HF'.out (by omega) (by omega) (by omega) (HU.out.below (by (repeat (first | (with_reducible exact Below.refl _ _) | (with_reducible assumption) | (with_reducible refine b_drew ?_) | (with_reducible refine b_drewN ?_ _) | (with_reducible refine b_alloc ?_ _) | ((with_reducible refine b_set ?_ ?_ _); rotate_left; (focus (first | omega | (simp; done) | (simp; omega) | (simp at *; omega)))) | (with_reducible refine b_call ?_ (by with_reducible assumption))))))).mono ?_; rintro e w6 ⟨rfl, U6, O6⟩; have U6 := Lib.hid U6))
        go_wp2
        go_roundw
        case rel => exact ⟨k + 1, h, by omega, by go_num, hhK, Lib.hid (by rw [EF.out]; exact HH'.out), rfl, Lib.hid (by rw [EF.out]; exact U6.out), o_call hO (by (repeat (first | (with_reducible exact Only.refl _ _) | (with_reducible assumption) | (with_reducible refine o_drew ?_) | (with_reducible refine o_drewN ?_ _) | (with_reducible refine o_alloc ?_ _) | (with_reducible refine o_call ?_ (by with_reducible assumption)) | (with_reducible refine o_below ?_ (by with_reducible assumption)))))⟩
        case measure => simp [intOf]; omega
      · have HQ := Lib.hid hq
        have hhu : (heads f' K).length + 1 = h := by rw [← HF'.out, ← HH.out]; exact heads_uni HP.out hq
        obtain ⟨h', rfl⟩ : ∃ h', h = h' + 1 := ⟨h - 1, by omega⟩
        have HH' := Lib.hid (show (heads f' K).length = h' from by omega)
        clear hq hhu HH
        go_wp2_with fail
        go_region_held3 (fun w' => (∀ b o, b < V.heap.size → b ≠ g → w'.cell? ⟨b, o, none⟩ = V.cell? ⟨b, o, none⟩) ∧ Only (· = g) V w') (exact stillG (by (repeat (first | (with_reducible exact Only.refl _ _) | (with_reducible assumption) | (with_reducible refine o_drew ?_) | (with_reducible refine o_drewN ?_ _) | (with_reducible refine o_alloc ?_ _) | (with_reducible refine o_call ?_ (by with_reducible assumption)) | (with_reducible refine o_below ?_ (by with_reducible assumption)))))) (first
          | (go_at_call 25; refine (ufunion_is p g K f x y _ _ f' HQ.out HF'.out (by omega) (by omega) (by omega) (HU.out.below (by (repeat (first | (with_reducible exact Below.refl _ _) | (with_reducible assumption) | (with_reducible refine b_drew ?_) | (with_reducible refine b_drewN ?_ _) | (with_reducible refine b_alloc ?_ _) | ((with_reducible refine b_set ?_ ?_ _); rotate_left; (focus (first | omega | (simp; done) | (simp; omega) | (simp at *; omega)))) | (with_reducible refine b_call ?_ (by with_reducible assumption))))))).mono ?_; rintro e w6 ⟨rfl, U6, O6⟩; have U6 := Lib.hid U6))
        go_wp2
        go_roundw
        case rel => exact ⟨k + 1, h', by omega, by go_num, by omega, Lib.hid (by rw [EF.out]; exact HH'.out), by go_num, Lib.hid (by rw [EF.out]; exact U6.out), o_call hO (by (repeat (first | (with_reducible exact Only.refl _ _) | (with_reducible assumption) | (with_reducible refine o_drew ?_) | (with_reducible refine o_drewN ?_ _) | (with_reducible refine o_alloc ?_ _) | (with_reducible refine o_call ?_ (by with_reducible assumption)) | (with_reducible refine o_below ?_ (by with_reducible assumption)))))⟩
        case measure => simp [intOf]; omega
    · obtain rfl : m = k := by omega
      have HP := Lib.hid HU.out.part
      clear RV
      generalize foldU K idU (E.take m) = F at *
      have hhm := HH.out
      clear HH
      go_wp2_with fail
      refine (ufgroups_any p g K F _ (by omega) HU.out).mono ?_
      rintro e X ⟨A4, c4, vs4, rfl, hc4, hm4, own4, rows4, U4, O4⟩
      have U4 := Lib.hid U4
      have hgV := HU.out.lt.2
      have RG := Lib.hid (show RdRowsG X g A4 (groupsI F K).length (groupsI F K) from RdRowsG.of own4 rfl rows4 hgV hgV)
      have hBX : Below w.heap.size w X := below_only (below_only hB2 hO hg) O4 hg
      have hGL : (groupsI F K).length = h := by rw [groupsI_len]; exact hhm
      rw [hGL] at hc4 ⊢
      rw [hGL] at RG
      have HGL := Lib.hid hhm
      clear own4 rows4 hGL hhm
      go_wp2
      go_loopw [11, 12] (fun s11 s12 wr => ∃ (i N : Nat) (A5 : Option Addr) (c5 : Nat), i ≤ h ∧ N ≤ 14 * i ∧ s12 = .int .i64 i ∧ s11 = .slice A5 N c5 ∧ Hid (N = (allN F K i 0).length) ∧ Hid (wr.ownsRow X.heap.size 3 1 (.slice A5 N c5) N ((intsI (allN F K i 0)).map (Value.int .i64))) ∧ N ≤ c5 ∧ c5 ≤ maxLen ∧ Hid (Ufs wr p g K F) ∧ Only (· = g) X wr) (fun _ i _ => h - (intOf i).toNat)
      case atStart => exact ⟨0, 0, none, 0, by omega, by omega, rfl, rfl, Lib.hid (by rw [all_zero]; rfl), Lib.hid (by rw [all_zero]; exact own_nil _ _ _ _), by omega, by simp [maxLen], U4, Only.refl _ _⟩
      case round =>
        obtain ⟨Y, rfl⟩ : ∃ Y : World, Y = wr := ⟨_, rfl⟩
        obtain ⟨i, N, A5, c5, hi, hN, rfl, rfl, HN, HO5, hc5, hm5, HU5, hO5⟩ := hrel
        by_cases hlt : i < h
        · have hih : i < (heads F K).length := by rw [HGL.out]; exact hlt
          have hmb := mb_head HP.out hih
          have RY := Lib.hid (RG.out.only hO5)
          obtain ⟨b, o, b1, o1, c6, rfl, hbg, hb1g, hcgX, hceX⟩ := group_at RG.out hlt hmb.2
          have hc0X := hceX 0 hmb.2
          rw [hmb.1, Nat.add_zero] at hc0X
          have hcg := cell_keepG hO5 hbg hcgX
          have hc00 := cell_keepG hO5 hb1g hc0X
          have HCX := Lib.hid (And.intro hcgX (And.intro hc0X hceX))
          have HHD := Lib.hid (mem_heads.1 (hd_mem hih)).1
          clear hcgX hc0X hceX
          have hLpos := hmb.2
          have hLle : (mb F K i).length ≤ K := memb_len F K _
          have HIH := Lib.hid hih
          clear hmb hih
          obtain ⟨L, hL⟩ : ∃ L, (mb F K i).length = L := ⟨_, rfl⟩
          rw [hL] at hcg hLpos hLle
          have HL := Lib.hid hL
          clear hL
          have hL0 : ((L : Int) == 0) = false := by simp; omega
          have RYH := Lib.hid hcg
          rcases Nat.eq_zero_or_pos i with h0 | h0
          · have hd0 : decide ((0 : Int) < (i : Int)) = false := by simp; omega
            have hd1 : decide (0 < i) = false := by simp; omega
            clear h0
            go_wp2_with fail
            go_quiet (fail)
            clear hd0 hd1 hc00
            generalize hY2 : Y.drewN nq = Y2
            have O2 : Only (· = g) X Y2 := by rw [← hY2]; exact hO5.drewN _
            have HOY := Lib.hid (show Y2.ownsRow X.heap.size 3 1 (.slice A5 N c5) N ((intsI (allN F K i 0)).map (Value.int .i64)) from by rw [← hY2]; exact HO5.out)
            have HUY := Lib.hid (show Ufs Y2 p g K F from by rw [← hY2]; exact HU5.out)
            clear hY2 hcg RYH RY HO5 HU5 hO5
            go_wp2
            go_loopw [11, 13] (fun s11 s13 wr => ∃ (j M : Nat) (A6 : Option Addr) (c7 : Nat), j ≤ L ∧ M ≤ 14 * i + j ∧ s13 = .int .i64 j ∧ s11 = .slice A6 M c7 ∧ Hid (M = (allN F K i j).length) ∧ Hid (wr.ownsRow X.heap.size 3 1 (.slice A6 M c7) M ((intsI (allN F K i j)).map (Value.int .i64))) ∧ M ≤ c7 ∧ c7 ≤ maxLen ∧ Hid (Ufs wr p g K F) ∧ Only (· = g) X wr) (fun _ i _ => L - (intOf i).toNat)
            case atStart => exact ⟨0, N, A5, c5, by omega, by omega, rfl, rfl, HN, HOY, hc5, hm5, HUY, O2⟩
            case round =>
              obtain ⟨j, M, A6, c7, hjL, hM, rfl, rfl, HMl, HO6, hc7, hm7, HU6, hO6⟩ := hrel
              have hcg6 := cell_keepG hO6 hbg HCX.out.1
              rw [HL.out] at hcg6
              by_cases hjl : j < L
              · have hjm : j < (mb F K i).length := by rw [HL.out]; exact hjl
                have hcj := cell_keepG hO6 hb1g (HCX.out.2.2 j hjm)
                have hc06 := cell_keepG hO6 hb1g HCX.out.2.1
                have hmbj := mb_is hjm
                have HFr := Lib.hid (all_fresh HIH.out hjm)
                have HSn := Lib.hid (all_snoc hjm)
                have HPrev := Lib.hid (fun (q : Nat) (hq : j = q + 1) => mb_lt (F := F) (K := K) (i := i) (j := q) (by omega))
                have HCp := Lib.hid (fun (q : Nat) (hq : j = q + 1) => cell_keepG hO6 hb1g (HCX.out.2.2 q (by omega)))
                obtain ⟨x, hx⟩ : ∃ x, (mb F K i).getD j 0 = x := ⟨_, rfl⟩
                rw [hx] at hcj hmbj HFr HSn
                have HX := Lib.hid hx
                have hxK := hmbj.1
                have hhdK := HHD.out
                have HSame := Lib.hid (show sameU K F x (hd F K i : Nat) = true from by rw [same_nat hxK hhdK, hmbj.2, (mem_heads.1 (hd_mem HIH.out)).2]; simp)
                have HHas := Lib.hid (show decide ((x : Int) ∈ intsI (allN F K i j)) = false from by
                  rw [decide_eq_false_iff_not]
                  intro h
                  obtain ⟨y, hy, he⟩ := List.mem_map.1 h
                  have : y = x := by omega
                  subst this
                  exact HFr.out hy)
                clear hx hjm hmbj HFr
                have hx0 : decide ((x : Int) < 0) = false := by simp
                have hx1 : decide ((K : Int) ≤ (x : Int)) = false := by simp; omega
                have hx2 : decide (K ≤ x) = false := by simp; omega
                generalize hd F K i = r0 at *
                rcases Nat.eq_zero_or_pos j with hj0 | hj0
                · have hjd : decide ((0 : Int) < (j : Int)) = false := by simp; omega
                  have hjd1 : decide (0 < j) = false := by simp; omega
                  clear hj0 HPrev HCp
                  go_wp2_with fail
                  refine (has_is A6 M c7 _ (x : Int) _ false (by omega) (rd_own HO6.out) HHas.out).mono ?_
                  rintro e w_ ⟨rfl, rfl⟩
                  go_wp2_with fail
                  refine (ufsame_is p g K F x r0 _ true HSame.out (by omega) (by omega) (by omega) HU6.out).mono ?_
                  rintro e w7 ⟨rfl, U7, O7⟩
                  have U7 := Lib.hid U7
                  have HO7 := Lib.hid (own_only HO6.out O7 (by intro j hj; have := hO6.size; have := U4.out.lt.2; omega))
                  have hO7 := o_call hO6 O7
                  have hz7 := hO7.size
                  go_wp2_with (at_builtin; refine wpList_app _ rfl (.tmp 132) (.tmp 134) slInts rfl rfl (HO7.out.alloc _) rfl (rd_lit _ _ _ rfl rfl) (by intro u hu; simp at hu; subst hu; rfl) (M + 1) rfl (by unfold maxLen; omega) (by omega) (by simp; omega) ?_; intro A8 c8 w8 g1 g2 g3 g4 g5)
                  have hO8 := (hO7.alloc (.cells #[.int .i64 (x : Int)] 3)).grown g4 (fun q e => .inr ((HO7.out.alloc (.cells #[.int .i64 (x : Int)] 3)).lt q e).1)
                  go_roundw
                  case rel => exact ⟨j + 1, M + 1, A8, c8, by omega, by omega, by go_num, rfl, Lib.hid (by rw [HSn.out, List.length_append, ← HMl.out]; rfl), Lib.hid (by rw [HSn.out, intsI_append, List.map_append]; exact g3), g1, g2, Lib.hid (ufs_only U7.out (b0 := X.heap.size) (((Only.refl _ w7).alloc _).grown g4 (fun q e => .inl ((HO7.out.alloc (.cells #[.int .i64 (x : Int)] 3)).lt q e).1)) U4.out.lt.1 U4.out.lt.2), hO8⟩
                  case measure => simp [intOf]; omega
                · have hjd : decide ((0 : Int) < (j : Int)) = true := by simp; omega
                  have hjd1 : decide (0 < j) = true := by simp; omega
                  have hcp := HCp.out (j - 1) (by omega)
                  have hpl := HPrev.out (j - 1) (by omega)
                  rw [show j - 1 + 1 = j from by omega, HX.out] at hpl
                  generalize (mb F K i).getD (j - 1) 0 = y at *
                  have hxy : decide ((x : Int) ≤ (y : Int)) = false := by simp; omega
                  have hxy1 : decide (x ≤ y) = false := by simp; omega
                  have hw1 : IntKind.i64.wrap ((j : Int) - 1) = (j : Int) - 1 := IntWalk.i64_in _ (by omega)
                  have hw2 : ((j : Int) - 1).toNat = j - 1 := by omega
                  have hw3 : (0 : Int) ≤ (j : Int) - 1 := by omega
                  have hw4 : (j : Int) - 1 < (L : Int) := by omega
                  have hw5 : (1 : Int) ≤ (j : Int) := by omega
                  clear hj0 HPrev HCp hpl
                  go_wp2_with fail
                  refine (has_is A6 M c7 _ (x : Int) _ false (by omega) (rd_own HO6.out) HHas.out).mono ?_
                  rintro e w_ ⟨rfl, rfl⟩
                  go_wp2_with fail
                  clear hw1 hw2 hw3 hw4 hw5
                  refine (ufsame_is p g K F x r0 _ true HSame.out (by omega) (by omega) (by omega) HU6.out).mono ?_
                  rintro e w7 ⟨rfl, U7, O7⟩
                  have U7 := Lib.hid U7
                  have HO7 := Lib.hid (own_only HO6.out O7 (by intro j hj; have := hO6.size; have := U4.out.lt.2; omega))
                  have hO7 := o_call hO6 O7
                  have hz7 := hO7.size
                  go_wp2_with (at_builtin; refine wpList_app _ rfl (.tmp 132) (.tmp 134) slInts rfl rfl (HO7.out.alloc _) rfl (rd_lit _ _ _ rfl rfl) (by intro u hu; simp at hu; subst hu; rfl) (M + 1) rfl (by unfold maxLen; omega) (by omega) (by simp; omega) ?_; intro A8 c8 w8 g1 g2 g3 g4 g5)
                  have hO8 := (hO7.alloc (.cells #[.int .i64 (x : Int)] 3)).grown g4 (fun q e => .inr ((HO7.out.alloc (.cells #[.int .i64 (x : Int)] 3)).lt q e).1)
                  go_roundw
                  case rel => exact ⟨j + 1, M + 1, A8, c8, by omega, by omega, by go_num, rfl, Lib.hid (by rw [HSn.out, List.length_append, ← HMl.out]; rfl), Lib.hid (by rw [HSn.out, intsI_append, List.map_append]; exact g3), g1, g2, Lib.hid (ufs_only U7.out (b0 := X.heap.size) (((Only.refl _ w7).alloc _).grown g4 (fun q e => .inl ((HO7.out.alloc (.cells #[.int .i64 (x : Int)] 3)).lt q e).1)) U4.out.lt.1 U4.out.lt.2), hO8⟩
                  case measure => simp [intOf]; omega
              · obtain rfl : j = L := by omega
                have HNX := Lib.hid (show allN F K i j = allN F K (i + 1) 0 from by rw [← all_next HIH.out, HL.out])
                go_wp2
                go_roundw
                case rel => exact ⟨i + 1, M, A6, c7, by omega, by omega, by go_num, rfl, Lib.hid (by rw [← HNX.out]; exact HMl.out), Lib.hid (by rw [← HNX.out]; exact HO6.out), hc7, hm7, HU6, hO6⟩
                case measure => simp [intOf]; omega
          · have hd0 : decide ((0 : Int) < (i : Int)) = true := by simp; omega
            have hd1 : decide (0 < i) = true := by simp; omega
            obtain ⟨i1, hi1⟩ : ∃ i1, i = i1 + 1 := ⟨i - 1, by omega⟩
            have hmb1 := mb_head (K := K) (i := i1) HP.out (by have := HIH.out; omega)
            obtain ⟨b', o', b2, o2, c7, e7, _, hb2g, hcg2, hce2⟩ := group_at RY.out (i := i1) (j := 0) (by omega) hmb1.2
            injection e7 with e7
            injection e7 with e7 e8
            subst e7 e8
            have hc20 := hce2 0 hmb1.2
            rw [hmb1.1, Nat.add_zero] at hc20
            have hlt2 := hd_lt (F := F) (K := K) (i := i1) (by have := HIH.out; omega)
            rw [← hi1] at hlt2
            rw [show i1 = i - 1 from by omega] at hcg2 hc20 hlt2
            have hle : decide ((hd F K i : Int) ≤ (hd F K (i - 1) : Int)) = false := by simp; omega
            have hle1 : decide (hd F K i ≤ hd F K (i - 1)) = false := by simp; omega
            have hlen2 := hmb1.2
            rw [show i1 = i - 1 from by omega] at hlen2
            have hw1 : IntKind.i64.wrap ((i : Int) - 1) = (i : Int) - 1 := IntWalk.i64_in _ (by omega)
            have hw2 : ((i : Int) - 1).toNat = i - 1 := by omega
            have hw3 : (0 : Int) ≤ (i : Int) - 1 := by omega
            have hw4 : (i : Int) - 1 < (h : Int) := by omega
            have hw5 : (1 : Int) ≤ (i : Int) := by omega
            clear hce2 hmb1 hi1 hlt2 h0
            generalize hd F K (i - 1) = r1 at *
            generalize (mb F K (i - 1)).length = L2 at *
            go_wp2_with fail
            go_quiet (fail)
            clear hd0 hd1 hc00 hw1 hw2 hw3 hw4 hw5 hc20 hcg2 hle hle1 hlen2
            generalize hY2 : Y.drewN nq = Y2
            have O2 : Only (· = g) X Y2 := by rw [← hY2]; exact hO5.drewN _
            have HOY := Lib.hid (show Y2.ownsRow X.heap.size 3 1 (.slice A5 N c5) N ((intsI (allN F K i 0)).map (Value.int .i64)) from by rw [← hY2]; exact HO5.out)
            have HUY := Lib.hid (show Ufs Y2 p g K F from by rw [← hY2]; exact HU5.out)
            clear hY2 hcg RYH RY HO5 HU5 hO5
            go_wp2
            go_loopw [11, 13] (fun s11 s13 wr => ∃ (j M : Nat) (A6 : Option Addr) (c7 : Nat), j ≤ L ∧ M ≤ 14 * i + j ∧ s13 = .int .i64 j ∧ s11 = .slice A6 M c7 ∧ Hid (M = (allN F K i j).length) ∧ Hid (wr.ownsRow X.heap.size 3 1 (.slice A6 M c7) M ((intsI (allN F K i j)).map (Value.int .i64))) ∧ M ≤ c7 ∧ c7 ≤ maxLen ∧ Hid (Ufs wr p g K F) ∧ Only (· = g) X wr) (fun _ i _ => L - (intOf i).toNat)
            case atStart => exact ⟨0, N, A5, c5, by omega, by omega, rfl, rfl, HN, HOY, hc5, hm5, HUY, O2⟩
            case round =>
              obtain ⟨j, M, A6, c7, hjL, hM, rfl, rfl, HMl, HO6, hc7, hm7, HU6, hO6⟩ := hrel
              have hcg6 := cell_keepG hO6 hbg HCX.out.1
              rw [HL.out] at hcg6
              by_cases hjl : j < L
              · have hjm : j < (mb F K i).length := by rw [HL.out]; exact hjl
                have hcj := cell_keepG hO6 hb1g (HCX.out.2.2 j hjm)
                have hc06 := cell_keepG hO6 hb1g HCX.out.2.1
                have hmbj := mb_is hjm
                have HFr := Lib.hid (all_fresh HIH.out hjm)
                have HSn := Lib.hid (all_snoc hjm)
                have HPrev := Lib.hid (fun (q : Nat) (hq : j = q + 1) => mb_lt (F := F) (K := K) (i := i) (j := q) (by omega))
                have HCp := Lib.hid (fun (q : Nat) (hq : j = q + 1) => cell_keepG hO6 hb1g (HCX.out.2.2 q (by omega)))
                obtain ⟨x, hx⟩ : ∃ x, (mb F K i).getD j 0 = x := ⟨_, rfl⟩
                rw [hx] at hcj hmbj HFr HSn
                have HX := Lib.hid hx
                have hxK := hmbj.1
                have hhdK := HHD.out
                have HSame := Lib.hid (show sameU K F x (hd F K i : Nat) = true from by rw [same_nat hxK hhdK, hmbj.2, (mem_heads.1 (hd_mem HIH.out)).2]; simp)
                have HHas := Lib.hid (show decide ((x : Int) ∈ intsI (allN F K i j)) = false from by
                  rw [decide_eq_false_iff_not]
                  intro h
                  obtain ⟨y, hy, he⟩ := List.mem_map.1 h
                  have : y = x := by omega
                  subst this
                  exact HFr.out hy)
                clear hx hjm hmbj HFr
                have hx0 : decide ((x : Int) < 0) = false := by simp
                have hx1 : decide ((K : Int) ≤ (x : Int)) = false := by simp; omega
                have hx2 : decide (K ≤ x) = false := by simp; omega
                generalize hd F K i = r0 at *
                rcases Nat.eq_zero_or_pos j with hj0 | hj0
                · have hjd : decide ((0 : Int) < (j : Int)) = false := by simp; omega
                  have hjd1 : decide (0 < j) = false := by simp; omega
                  clear hj0 HPrev HCp
                  go_wp2_with fail
                  refine (has_is A6 M c7 _ (x : Int) _ false (by omega) (rd_own HO6.out) HHas.out).mono ?_
                  rintro e w_ ⟨rfl, rfl⟩
                  go_wp2_with fail
                  refine (ufsame_is p g K F x r0 _ true HSame.out (by omega) (by omega) (by omega) HU6.out).mono ?_
                  rintro e w7 ⟨rfl, U7, O7⟩
                  have U7 := Lib.hid U7
                  have HO7 := Lib.hid (own_only HO6.out O7 (by intro j hj; have := hO6.size; have := U4.out.lt.2; omega))
                  have hO7 := o_call hO6 O7
                  have hz7 := hO7.size
                  go_wp2_with (at_builtin; refine wpList_app _ rfl (.tmp 132) (.tmp 134) slInts rfl rfl (HO7.out.alloc _) rfl (rd_lit _ _ _ rfl rfl) (by intro u hu; simp at hu; subst hu; rfl) (M + 1) rfl (by unfold maxLen; omega) (by omega) (by simp; omega) ?_; intro A8 c8 w8 g1 g2 g3 g4 g5)
                  have hO8 := (hO7.alloc (.cells #[.int .i64 (x : Int)] 3)).grown g4 (fun q e => .inr ((HO7.out.alloc (.cells #[.int .i64 (x : Int)] 3)).lt q e).1)
                  go_roundw
                  case rel => exact ⟨j + 1, M + 1, A8, c8, by omega, by omega, by go_num, rfl, Lib.hid (by rw [HSn.out, List.length_append, ← HMl.out]; rfl), Lib.hid (by rw [HSn.out, intsI_append, List.map_append]; exact g3), g1, g2, Lib.hid (ufs_only U7.out (b0 := X.heap.size) (((Only.refl _ w7).alloc _).grown g4 (fun q e => .inl ((HO7.out.alloc (.cells #[.int .i64 (x : Int)] 3)).lt q e).1)) U4.out.lt.1 U4.out.lt.2), hO8⟩
                  case measure => simp [intOf]; omega
                · have hjd : decide ((0 : Int) < (j : Int)) = true := by simp; omega
                  have hjd1 : decide (0 < j) = true := by simp; omega
                  have hcp := HCp.out (j - 1) (by omega)
                  have hpl := HPrev.out (j - 1) (by omega)
                  rw [show j - 1 + 1 = j from by omega, HX.out] at hpl
                  generalize (mb F K i).getD (j - 1) 0 = y at *
                  have hxy : decide ((x : Int) ≤ (y : Int)) = false := by simp; omega
                  have hxy1 : decide (x ≤ y) = false := by simp; omega
                  have hw1 : IntKind.i64.wrap ((j : Int) - 1) = (j : Int) - 1 := IntWalk.i64_in _ (by omega)
                  have hw2 : ((j : Int) - 1).toNat = j - 1 := by omega
                  have hw3 : (0 : Int) ≤ (j : Int) - 1 := by omega
                  have hw4 : (j : Int) - 1 < (L : Int) := by omega
                  have hw5 : (1 : Int) ≤ (j : Int) := by omega
                  clear hj0 HPrev HCp hpl
                  go_wp2_with fail
                  refine (has_is A6 M c7 _ (x : Int) _ false (by omega) (rd_own HO6.out) HHas.out).mono ?_
                  rintro e w_ ⟨rfl, rfl⟩
                  go_wp2_with fail
                  clear hw1 hw2 hw3 hw4 hw5
                  refine (ufsame_is p g K F x r0 _ true HSame.out (by omega) (by omega) (by omega) HU6.out).mono ?_
                  rintro e w7 ⟨rfl, U7, O7⟩
                  have U7 := Lib.hid U7
                  have HO7 := Lib.hid (own_only HO6.out O7 (by intro j hj; have := hO6.size; have := U4.out.lt.2; omega))
                  have hO7 := o_call hO6 O7
                  have hz7 := hO7.size
                  go_wp2_with (at_builtin; refine wpList_app _ rfl (.tmp 132) (.tmp 134) slInts rfl rfl (HO7.out.alloc _) rfl (rd_lit _ _ _ rfl rfl) (by intro u hu; simp at hu; subst hu; rfl) (M + 1) rfl (by unfold maxLen; omega) (by omega) (by simp; omega) ?_; intro A8 c8 w8 g1 g2 g3 g4 g5)
                  have hO8 := (hO7.alloc (.cells #[.int .i64 (x : Int)] 3)).grown g4 (fun q e => .inr ((HO7.out.alloc (.cells #[.int .i64 (x : Int)] 3)).lt q e).1)
                  go_roundw
                  case rel => exact ⟨j + 1, M + 1, A8, c8, by omega, by omega, by go_num, rfl, Lib.hid (by rw [HSn.out, List.length_append, ← HMl.out]; rfl), Lib.hid (by rw [HSn.out, intsI_append, List.map_append]; exact g3), g1, g2, Lib.hid (ufs_only U7.out (b0 := X.heap.size) (((Only.refl _ w7).alloc _).grown g4 (fun q e => .inl ((HO7.out.alloc (.cells #[.int .i64 (x : Int)] 3)).lt q e).1)) U4.out.lt.1 U4.out.lt.2), hO8⟩
                  case measure => simp [intOf]; omega
              · obtain rfl : j = L := by omega
                have HNX := Lib.hid (show allN F K i j = allN F K (i + 1) 0 from by rw [← all_next HIH.out, HL.out])
                go_wp2
                go_roundw
                case rel => exact ⟨i + 1, M, A6, c7, by omega, by omega, by go_num, rfl, Lib.hid (by rw [← HNX.out]; exact HMl.out), Lib.hid (by rw [← HNX.out]; exact HO6.out), hc7, hm7, HU6, hO6⟩
                case measure => simp [intOf]; omega
        · obtain rfl : i = h := by omega
          have hNK := Lib.hid (show N = K from by rw [HN.out, ← HGL.out]; exact all_len HP.out)
          obtain rfl : N = K := hNK.out
          have hBY : Below w.heap.size w Y := below_only hBX hO5 hg
          go_wp2_with fail
          refine (lives_any _).mono ?_
          rintro e w9 ⟨rfl, hb9⟩
          go_wp2
          go_ret
          exact ⟨rfl, hBY.trans (Below.mono (by (repeat (first | (with_reducible exact Below.refl _ _) | (with_reducible assumption) | (with_reducible refine b_drew ?_) | (with_reducible refine b_drewN ?_ _) | (with_reducible refine b_alloc ?_ _) | ((with_reducible refine b_set ?_ ?_ _); rotate_left; (focus (first | omega | (simp; done) | (simp; omega) | (simp at *; omega)))) | (with_reducible refine b_call ?_ (by with_reducible assumption))))) hBY.size)⟩
end Go.Proofs.Ytjmhibjkbnbefaa
