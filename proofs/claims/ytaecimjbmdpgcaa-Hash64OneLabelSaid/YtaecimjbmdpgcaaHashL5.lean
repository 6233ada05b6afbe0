/-
  WHAT IS PROVED HERE: the walk of the law Hash64OneLabel: it returns true at every input and leaves old memory as it was.
-/
import Derived.Test.YtaecimjbmdpgcaaHashL4
namespace Go.Proofs.Ytaecimjbmdpgcaa
set_option linter.unusedVariables false
open Go.ChangeShapes Go.WideShapes Go.ChangeAt Go.RowKit

theorem words_group {s : Int} (hs : U64 s) {x y : List Int} (hx : Bytes x) (hy : Bytes y) (hl : x.length = y.length) (G : Nat) (hG : ∀ i, i / 8 ≠ G → x[i]? = y[i]?) (h1 : absorb s (wordsI x) = absorb s (wordsI y)) : x = y := by
  have hgrp : ∀ i, i ≠ G → (x.drop (8 * i)).take 8 = (y.drop (8 * i)).take 8 := fun i hi => List.ext_getElem? fun j => by
    by_cases hj : j < 8
    · rw [group_get x i j hj, group_get y i j hj]
      exact hG _ (by omega)
    · rw [List.getElem?_take, List.getElem?_take, if_neg hj, if_neg hj]
  have hword : ∀ i, i ≠ G → (wordsI x)[i]? = (wordsI y)[i]? := fun i hi => by
    unfold wordsI
    rw [← hl, List.getElem?_map, List.getElem?_map]
    rcases h : (List.range ((x.length + 7) / 8))[i]? with _ | v
    · rfl
    · have hv : i = v := by
        obtain ⟨h1, h2⟩ := List.getElem?_eq_some_iff.1 h
        simpa using h2
      subst hv
      simp only [Option.map_some]
      rw [hgrp i hi]
  have hwl : (wordsI x).length = (wordsI y).length := by rw [wordsI_length, wordsI_length, hl]
  have fin : (x.drop (8 * G)).take 8 = (y.drop (8 * G)).take 8 → x = y := fun hg => List.ext_getElem? fun i => by
    by_cases hi : i / 8 = G
    · have h2 := congrArg (fun (l : List Int) => l[i - 8 * G]?) hg
      rw [group_get x G _ (by omega), group_get y G _ (by omega), show 8 * G + (i - 8 * G) = i from by omega] at h2
      exact h2
    · exact hG i hi
  by_cases hGm : G < (wordsI x).length
  · have hGm' : G < (wordsI y).length := by omega
    have t1 : (wordsI x).take G = (wordsI y).take G := List.ext_getElem? fun i => by
      rw [List.getElem?_take, List.getElem?_take]
      split
      · exact hword i (by omega)
      · rfl
    have t2 : (wordsI x).drop (G + 1) = (wordsI y).drop (G + 1) := List.ext_getElem? fun i => by
      rw [List.getElem?_drop, List.getElem?_drop]
      exact hword _ (by omega)
    have ex : wordsI x = (wordsI x).take G ++ (wordsI x)[G] :: (wordsI x).drop (G + 1) := by
      rw [← List.drop_eq_getElem_cons hGm, List.take_append_drop]
    have ey : wordsI y = (wordsI x).take G ++ (wordsI y)[G] :: (wordsI x).drop (G + 1) := by
      rw [t1, t2, ← List.drop_eq_getElem_cons hGm', List.take_append_drop]
    rw [ex, ey] at h1
    have h2 := absorb_one hs _ _ (wordsI_u64 hx _ (List.getElem_mem hGm)) (wordsI_u64 hy _ (List.getElem_mem hGm')) h1
    have h3 : leI ((x.drop (8 * G)).take 8) = leI ((y.drop (8 * G)).take 8) := by
      simpa [wordsI] using h2
    exact fin (leI_inj ((hx.drop _).take _) ((hy.drop _).take _) (by simp [hl]) h3)
  · refine fin ?_
    have hm : x.length ≤ 8 * G := by
      rw [wordsI_length] at hGm
      omega
    rw [List.drop_eq_nil_of_le hm, List.drop_eq_nil_of_le (by omega)]

theorem label_group {x y l : List Int} (hx : Bytes x) (hy : Bytes y) (hl : x.length = y.length) (G : Nat) (hG : ∀ i, i / 8 ≠ G → x[i]? = y[i]?) : (sumI x l == sumI y l) = decide (x = y) := by
  rw [Bool.eq_iff_iff, beq_iff_eq, decide_eq_true_iff]
  refine ⟨fun h => ?_, fun h => by rw [h]⟩
  unfold sumI at h
  have h1 := absorb_inj (beginI_u64 _ _) (beginI_u64 _ _) (mixI_left (absorb_u64 (beginI_u64 _ _) _) (absorb_u64 (beginI_u64 _ _) _) h)
  unfold beginI at h1
  rw [← hl] at h1
  have h0 : U64 0 := ⟨by omega, by omega⟩
  exact words_group h0 hx hy hl G hG (mixI_left (absorb_u64 h0 _) (absorb_u64 h0 _) (mixI_left (mixI_u64 _ _) (mixI_u64 _ _) h1))
theorem xor_same {a b : Int} (ha : 0 ≤ a ∧ a ≤ 255) (hb : 0 ≤ b ∧ b ≤ 255) (h : bits .xor .u8 a b = a) : b = 0 := by
  rw [u8_xor a b ha.1 (by omega) hb.1 (by omega)] at h
  have h1 : a.toNat ^^^ b.toNat = a.toNat := by omega
  have h2 : b.toNat = 0 := by
    have := congrArg (fun n => a.toNat ^^^ n) h1
    simpa [← Nat.xor_assoc] using this
  omega
theorem xor_zero' {a : Int} (ha : 0 ≤ a ∧ a ≤ 255) : bits .xor .u8 a 0 = a := by
  rw [u8_xor a 0 ha.1 (by omega) (by omega) (by omega)]
  simp
  omega
theorem label_set {x l : List Int} (hx : Bytes x) {K : Nat} (hK : K < x.length) {y v : Int} (hy : x[K] = y) (hv : 0 ≤ v ∧ v ≤ 255) : (sumI x l == sumI (x.set K (bits .xor .u8 y v)) l) = (v == 0) := by
  have hb := hx _ (List.getElem_mem hK)
  rw [hy] at hb
  rw [label_group hx (bytes_set hx K (xor_u8 hb hv)) (by simp) (K / 8) (fun i hi => set_far (by rintro rfl; exact hi rfl)), Bool.eq_iff_iff, decide_eq_true_iff, beq_iff_eq]
  constructor
  · intro h
    have h1 : x[K] = (x.set K (bits .xor .u8 y v))[K]'(by simpa using hK) := by
      conv => lhs; rw [List.getElem_of_eq h hK]
    rw [List.getElem_set_self, hy] at h1
    exact xor_same hb hv h1.symm
  · rintro rfl
    rw [xor_zero' hb, ← hy, List.set_getElem_self]

def ofI (l : List Int) : ByteArray := ⟨(l.map fun n => UInt8.ofNat n.toNat).toArray⟩
theorem ofI_size (l : List Int) : (ofI l).size = l.length := by
  show ((l.map fun n => UInt8.ofNat n.toNat).toArray).size = _
  simp
theorem txt_ofI {l : List Int} (h : Bytes l) : txt (ofI l) = l := by
  unfold txt ofI
  rw [List.map_map]
  conv => rhs; rw [← List.map_id l]
  refine List.map_congr_left fun x hx => ?_
  have := h x hx
  simp only [Function.comp, UInt8.toNat_ofNat', id]
  omega
theorem conv_rd {W : World} {B n c : Nat} {A : Option Addr} {z : ByteArray} (rd : Rd W B 1 A n ((txt z).map (Value.int .u8))) :
    (convert 30 9 (.slice A n c)).run Try.prog W = .ok (.string z) W := by
  have hl : n = z.data.toList.length := by
    have := rd.1
    simp only [List.length_map, Nat.mul_one] at this
    rw [← this, txt_length]
    rfl
  rcases Nat.eq_zero_or_pos n with h0 | h0
  · rw [run_convert_bytes_string W _ _ 5 A n c Try.underlying30 Try.underlying5 Try.underlying9]
    subst h0
    have hz : z = ⟨#[]⟩ := by
      apply ByteArray.ext
      apply Array.toList_inj.1
      exact List.length_eq_zero_iff.1 hl.symm
    subst hz
    cases A <;> rfl
  · obtain ⟨b, o, rfl, hb, hr⟩ := rd.2 (by intro h1; have h2 := congrArg List.length h1; simp only [List.length_map, List.length_nil, txt_length] at h2; have h3 : z.size = z.data.toList.length := rfl; omega)
    have h := run_convert_bytes_back (P := Try.prog) W 30 9 5 ⟨b, o, none⟩ c z.data.toList Try.underlying30 Try.underlying5 Try.underlying9 (fun j hj => by
      have := hr j (.int .u8 ((z.data.toList[j]).toNat : Int)) (by simp [txt, List.getElem?_eq_getElem hj])
      rw [Addr.add_lit]
      exact this)
    rw [← hl] at h
    rw [h]

set_option maxHeartbeats 8000000 in
theorem hlabel_walk (s : ByteArray) (hs : s.size ≤ maxLen) (A : Option Addr) (n c : Nat) (l : List Int) (p v : Int) (hp : -9223372036854775808 ≤ p ∧ p ≤ 9223372036854775807) (hv : 0 ≤ v ∧ v ≤ 255) (w : World) (rd : Rd w w.heap.size 1 A n (l.map (Value.int .i64))) (hn : n ≤ c) (hc : c ≤ maxLen) :
    Calls Try.prog 7 #[.string s, .slice A n c, .int .i64 p, .int .u8 v] w fun e w' => e = .returned (.bool true) ∧ Below w.heap.size w w' := by
  have HC := Lib.hid hc
  have HS := Lib.hid hs
  have RD := Lib.hid rd
  have hcv := fun W z => run_bytes_of_string (P := Try.prog) W 9 30 5 z Try.underlying9 Try.underlying30 Try.underlying5
  clear hc hs rd
  go_enter Try.func7, Try.ntmps7
  go_wp2_with fail
  refine (ints_any A n c l 6 6 _ rfl RD.out hn HC.out (by omega)).mono ?_
  rintro e w1 ⟨A1, c1, rfl, g1, g2, g3, hb1⟩
  have hN : min n 6 ≤ 6 := Nat.min_le_right _ _
  have O1 := Lib.hid (rd_own g3)
  clear g3 g2 g1
  generalize min n 6 = N at *
  generalize l.take 6 = l1 at *
  have hz1 := hb1.size
  go_wp2_with fail
  refine (short_any s 29 29 rfl (by have := HS.out; unfold maxLen at this; omega) (by omega) _).mono ?_
  rintro e w_ ⟨s', rfl, ht, hsz, rfl⟩
  clear ht
  have hadd := run_string_add_sum (P := Try.prog) w1 s' ⟨#[120]⟩ (by show s'.size + 1 ≤ _; omega)
  have hys : (s' ++ ⟨#[120]⟩ : ByteArray).size = s'.size + 1 := by rw [ByteArray.size_append']; rfl
  obtain ⟨y, hy⟩ : ∃ y, s' ++ ⟨#[120]⟩ = y := ⟨_, rfl⟩
  rw [hy] at hadd hys
  clear hy
  have hys2 : y.size ≤ 30 := by omega
  go_wp2_with fail
  refine name_worldC ?_
  intro X hX
  have hC1 := Nat.le_trans (Nat.le_of_eq (by omega : y.size = s'.size + 1)) (grownCap_ge w1 (s'.size + 1) 0 5)
  have hC2 := grownCap_le_maxLen w1 (s'.size + 1) 0 5 (by unfold maxLen; omega)
  have RA := Lib.hid (show Rd X X.heap.size 1 (some ⟨w1.heap.size, 0, none⟩) y.size ((txt y).map (Value.int .u8)) from by
    rw [hX]
    exact rd_strbytes (by exact World.alloc_heap_new w1 _) (by simp))
  have hBX : Below w.heap.size w X := by rw [hX]; exact b_drew (b_alloc hb1 _)
  have h1X : Below w1.heap.size w1 X := by rw [hX]; exact b_drew (b_alloc (Below.refl _ _) _)
  have RO := Lib.hid (rd_step O1.out h1X)
  clear h1X
  have hzX : X.heap.size = w1.heap.size + 1 := by rw [hX]; simp
  clear hX hb1 hadd hcv
  generalize grownCap w1 (s'.size + 1) 0 5 = C at *
  rw [← hys]
  have hY : 1 ≤ y.size := by omega
  clear hys hsz
  have HBY := Lib.hid (txt_bytes y)
  have HLY := Lib.hid (txt_length y)
  generalize hYe : y.size = Y at *
  refine (few_any (some ⟨w1.heap.size, 0, none⟩) Y C (txt y) 30 30 X rfl RA.out hC1 hC2 (by omega)).mono ?_
  rintro e w3 ⟨A3, c3, rfl, g1, g2, g3, hb3⟩
  rw [Nat.min_eq_left hys2] at g1 g3 ⊢
  rw [List.take_of_length_le (by rw [HLY.out]; omega)] at g3
  obtain ⟨g, cur, rfl, hg, hV, hcur, hNc, hcs⟩ := own_open g3 (by omega)
  have O3 := Lib.hid g3
  have hz3 := hb3.size
  have ha := around_bd p Y (by omega)
  obtain ⟨K, hK⟩ : ∃ K : Nat, around p Y = K := ⟨(around p Y).toNat, by omega⟩
  rw [hK] at ha
  go_wp2_with fail
  refine (around_any p _ _ hp.1 hp.2 (by omega) (by omega)).mono ?_
  rintro e w_ ⟨rfl, rfl⟩
  rw [hK]
  clear hK
  obtain ⟨b', o', hKl, e1, hb', hcell⟩ := (rd_own O3.out).openMap (k := K) (by omega)
  injection e1 with e1
  injection e1 with e1 e1'
  subst e1 e1'
  rw [Nat.zero_add] at hcell
  have hfK := hV.frozen K
  have hbx := HBY.out _ (List.getElem_mem hKl)
  obtain ⟨x, hx⟩ : ∃ x, (txt y)[K] = x := ⟨_, rfl⟩
  rw [hx] at hcell hbx
  have hx1 := xor_u8 hbx hv
  have HQ := Lib.hid (label_set (l := l1) HBY.out hKl hx hv)
  obtain ⟨z, hz⟩ : ∃ z, ofI ((txt y).set K (bits .xor .u8 x v)) = z := ⟨_, rfl⟩
  have hzt : (txt y).set K (bits .xor .u8 x v) = txt z := by rw [← hz, txt_ofI (bytes_set HBY.out K hx1)]
  have hzs : z.size = Y := by rw [← hz, ofI_size, List.length_set, HLY.out]
  have HZ := Lib.hid hzt
  clear hz hzt hx
  go_wp2_with fail
  refine name_world ?_
  intro X2 hX2
  have OX := Lib.hid (show X2.ownsRow X.heap.size 5 1 (.slice (some ⟨g, 0, none⟩) Y c3) Y ((txt z).map (Value.int .u8)) from by rw [hX2, ← HZ.out, List.map_set]; exact own_set O3.out K _)
  have RX := Lib.hid (show Rd X2 X2.heap.size 1 (some ⟨w1.heap.size, 0, none⟩) Y ((txt y).map (Value.int .u8)) from by
    rw [hX2]
    exact ((RA.out.below hb3 (Nat.le_refl _)).setCell (p := ⟨g, K, none⟩) hg _).more (by simpa [World.setCell] using hz3))
  have RI := Lib.hid (show Rd X2 X2.heap.size 1 A1 N (l1.map (Value.int .i64)) from by
    rw [hX2]
    exact ((RO.out.below hb3 (Nat.le_refl _)).setCell (p := ⟨g, K, none⟩) hg _).more (by simpa [World.setCell] using hz3))
  have hBX2 : Below w.heap.size w X2 := by rw [hX2]; exact (b_call hBX hb3).setCell (p := ⟨g, K, none⟩) (Nat.le_trans hBX.size hg) _
  have q := HQ.out
  rw [HZ.out] at q
  clear hX2 hcell hfK hV hcur hcs hNc hb3 hBX
  have hcv1 : ∀ W', Below X2.heap.size X2 W' → (convert 30 9 (.slice (some ⟨w1.heap.size, 0, none⟩) Y C)).run Try.prog W' = .ok (.string y) W' := fun W' hW => conv_rd (RX.out.below hW (Nat.le_refl _))
  have hcv2 : ∀ W', Below X2.heap.size X2 W' → (convert 30 9 (.slice (some ⟨g, 0, none⟩) Y c3)).run Try.prog W' = .ok (.string z) W' := fun W' hW => conv_rd ((rd_own OX.out).below hW (Nat.le_refl _))
  go_region_held3 (fun w' => (∀ b o, b < X2.heap.size → w'.cell? ⟨b, o, none⟩ = X2.cell? ⟨b, o, none⟩) ∧ Below X2.heap.size X2 w') (first | exact still_call (by assumption) (by assumption) | exact still_drew0 _ | exact still_drew (by assumption) | exact still_alloc (by assumption) _) (first
    | (go_at_call 13; (with_reducible refine (sum_any y ?_ A1 N c1 l1 _ ?_ ?_).mono ?_); (· omega); (· exact rd_step RI.out (by (repeat (first | (with_reducible exact Below.refl _ _) | (with_reducible assumption) | (with_reducible refine b_drew ?_) | (with_reducible refine b_drewN ?_ _) | (with_reducible refine b_alloc ?_ _) | ((with_reducible refine b_set ?_ ?_ _); rotate_left; (focus (first | omega | (simp; done) | (simp; omega) | (simp at *; omega)))) | (with_reducible refine b_call ?_ (by with_reducible assumption)))))); (· omega); rintro e w4 ⟨rfl, hb4⟩)
    | (go_at_call 13; (with_reducible refine (sum_any z ?_ A1 N c1 l1 _ ?_ ?_).mono ?_); (· omega); (· exact rd_step RI.out (by (repeat (first | (with_reducible exact Below.refl _ _) | (with_reducible assumption) | (with_reducible refine b_drew ?_) | (with_reducible refine b_drewN ?_ _) | (with_reducible refine b_alloc ?_ _) | ((with_reducible refine b_set ?_ ?_ _); rotate_left; (focus (first | omega | (simp; done) | (simp; omega) | (simp at *; omega)))) | (with_reducible refine b_call ?_ (by with_reducible assumption)))))); (· omega); rintro e w5 ⟨rfl, hb5⟩)
    | (go_at_call 15; refine (hlives_any _).mono ?_; rintro e w6 ⟨rfl, hb6⟩))
  go_wp2
  go_ret
  exact ⟨rfl, by (repeat (first | (with_reducible exact Below.refl _ _) | (with_reducible assumption) | (with_reducible refine b_drew ?_) | (with_reducible refine b_drewN ?_ _) | (with_reducible refine b_alloc ?_ _) | ((with_reducible refine b_set ?_ ?_ _); rotate_left; (focus (first | omega | (simp; done) | (simp; omega) | (simp at *; omega)))) | (with_reducible refine b_call ?_ (by with_reducible assumption))))⟩
end Go.Proofs.Ytaecimjbmdpgcaa
