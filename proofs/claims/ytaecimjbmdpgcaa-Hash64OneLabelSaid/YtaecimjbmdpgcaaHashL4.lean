/-
  WHAT IS PROVED HERE: the walk of the law Hash64OneGroup: it returns true at every input and leaves old memory as it was.
-/
import Derived.Test.YtaecimjbmdpgcaaHashQ
namespace Go.Proofs.Ytaecimjbmdpgcaa
set_option linter.unusedVariables false
open Go.ChangeShapes Go.WideShapes Go.ChangeAt Go.RowKit

theorem group_get (x : List Int) (G j : Nat) (hj : j < 8) : ((x.drop (8 * G)).take 8)[j]? = x[8 * G + j]? := by
  rw [List.getElem?_take, if_pos hj, List.getElem?_drop]
theorem bytes_group {lab x y : List Int} (hx : Bytes x) (hy : Bytes y) (hl : x.length = y.length) (G : Nat) (hG : ∀ i, i / 8 ≠ G → x[i]? = y[i]?) : (bytesI lab x == bytesI lab y) = decide (x = y) := by
  rw [Bool.eq_iff_iff, beq_iff_eq, decide_eq_true_iff]
  refine ⟨fun h => ?_, fun h => by rw [h]⟩
  unfold bytesI at h
  rw [← hl] at h
  have h1 := mixI_left (absorb_u64 (beginI_u64 _ _) _) (absorb_u64 (beginI_u64 _ _) _) (mixI_left (mixI_u64 _ _) (mixI_u64 _ _) h)
  have hgrp : ∀ i, i ≠ G → (x.drop (8 * i)).take 8 = (y.drop (8 * i)).take 8 := fun i hi => List.ext_getElem? fun j => by
    by_cases hj : j < 8
    · rw [group_get x i j hj, group_get y i j hj]
      exact hG _ (by omega)
    · rw [List.getElem?_take, List.getElem?_take, if_neg hj, if_neg hj]
  have hword : ∀ i, i ≠ G → (wordsI x)[i]? = (wordsI y)[i]? := fun i hi => by
    unfold wordsI
    rw [← hl, List.getElem?_map, List.getElem?_map]
    rcases h : (List.range ((x.length + 7) / 8))[i]? with _ | v
    · rfl
    · have hv : i = v := by
        obtain ⟨h1, h2⟩ := List.getElem?_eq_some_iff.1 h
        simpa using h2
      subst hv
      simp only [Option.map_some]
      rw [hgrp i hi]
  have hwl : (wordsI x).length = (wordsI y).length := by rw [wordsI_length, wordsI_length, hl]
  have fin : (x.drop (8 * G)).take 8 = (y.drop (8 * G)).take 8 → x = y := fun hg => List.ext_getElem? fun i => by
    by_cases hi : i / 8 = G
    · have h2 := congrArg (fun (l : List Int) => l[i - 8 * G]?) hg
      rw [group_get x G _ (by omega), group_get y G _ (by omega), show 8 * G + (i - 8 * G) = i from by omega] at h2
      exact h2
    · exact hG i hi
  by_cases hGm : G < (wordsI x).length
  · have hGm' : G < (wordsI y).length := by omega
    have t1 : (wordsI x).take G = (wordsI y).take G := List.ext_getElem? fun i => by
      rw [List.getElem?_take, List.getElem?_take]
      split
      · exact hword i (by omega)
      · rfl
    have t2 : (wordsI x).drop (G + 1) = (wordsI y).drop (G + 1) := List.ext_getElem? fun i => by
      rw [List.getElem?_drop, List.getElem?_drop]
      exact hword _ (by omega)
    have ex : wordsI x = (wordsI x).take G ++ (wordsI x)[G] :: (wordsI x).drop (G + 1) := by
      rw [← List.drop_eq_getElem_cons hGm, List.take_append_drop]
    have ey : wordsI y = (wordsI x).take G ++ (wordsI y)[G] :: (wordsI x).drop (G + 1) := by
      rw [t1, t2, ← List.drop_eq_getElem_cons hGm', List.take_append_drop]
    rw [ex, ey] at h1
    have h2 := absorb_one (beginI_u64 _ _) _ _ (wordsI_u64 hx _ (List.getElem_mem hGm)) (wordsI_u64 hy _ (List.getElem_mem hGm')) h1
    have h3 : leI ((x.drop (8 * G)).take 8) = leI ((y.drop (8 * G)).take 8) := by
      simpa [wordsI] using h2
    exact fin (leI_inj ((hx.drop _).take _) ((hy.drop _).take _) (by simp [hl]) h3)
  · refine fin ?_
    have hm : x.length ≤ 8 * G := by
      rw [wordsI_length] at hGm
      omega
    rw [List.drop_eq_nil_of_le hm, List.drop_eq_nil_of_le (by omega)]

theorem bytes_set {x : List Int} (h : Bytes x) (k : Nat) {v : Int} (hv : 0 ≤ v ∧ v ≤ 255) : Bytes (x.set k v) := fun y hy => by
  rcases List.mem_or_eq_of_mem_set hy with h1 | h1
  · exact h y h1
  · rw [h1]; exact hv
theorem set_far {x : List Int} {k i : Nat} {v : Int} (h : k ≠ i) : x[i]? = (x.set k v)[i]? := by
  rw [List.getElem?_set, if_neg h]
theorem xor_u8 {a b : Int} (ha : 0 ≤ a ∧ a ≤ 255) (hb : 0 ≤ b ∧ b ≤ 255) : 0 ≤ bits .xor .u8 a b ∧ bits .xor .u8 a b ≤ 255 := by
  have h : bits .xor .u8 a b = IntKind.u8.wrap ((BitVec.ofInt 8 a ^^^ BitVec.ofInt 8 b).toNat : Int) := rfl
  have := (BitVec.ofInt 8 a ^^^ BitVec.ofInt 8 b).isLt
  rw [h, IntKind.wrap_u8]
  omega

set_option maxHeartbeats 8000000 in
theorem hgroup_walk (s : ByteArray) (hs : s.size ≤ maxLen) (A : Option Addr) (n c : Nat) (l : List Int) (hl : Bytes l) (p v u : Int) (hp : -9223372036854775808 ≤ p ∧ p ≤ 9223372036854775807) (hv : 0 ≤ v ∧ v ≤ 255) (hu : 0 ≤ u ∧ u ≤ 255) (w : World) (rd : Rd w w.heap.size 1 A n (l.map (Value.int .u8))) (hn : n ≤ c) (hc : c ≤ maxLen) :
    Calls Try.prog 6 #[.string s, .slice A n c, .int .i64 p, .int .u8 v, .int .u8 u] w fun e w' => e = .returned (.bool true) ∧ Below w.heap.size w w' := by
  have HC := Lib.hid hc
  have HS := Lib.hid hs
  have RD := Lib.hid rd
  have hLL : l.length = n := by have := rd.1; simpa using this
  have HN1 := Lib.hid (show (l.take 39).length = min n 39 from by rw [List.length_take, hLL, Nat.min_comm])
  clear hc hs rd hLL
  go_enter Try.func6, Try.ntmps6
  go_wp2_with fail
  refine (short_any s 20 20 rfl (by have := HS.out; unfold maxLen at this; omega) (by omega) _).mono ?_
  rintro e w_ ⟨s', rfl, ht, hsz, rfl⟩
  clear ht
  go_wp2_with fail
  refine (few_any A n c l 39 39 _ rfl RD.out hn HC.out (by omega)).mono ?_
  rintro e w1 ⟨A1, c1, rfl, g1, g2, g3, hb1⟩
  have hN : min n 39 ≤ 39 := Nat.min_le_right _ _
  generalize min n 39 = N at *
  have hl1 : Bytes (l.take 39) := hl.take 39
  generalize l.take 39 = l1 at *
  have O1 := Lib.hid g3
  clear g3 g2 g1
  have hz1 := hb1.size
  go_wp2_with (at_builtin; refine wpList_app _ rfl (.tmp 18) (.tmp 19) slBytes rfl rfl (O1.out.alloc _) rfl (rd_lit w1 _ _ rfl rfl) (by intro u hu; simp at hu; subst hu; rfl) (N + 1) rfl (by unfold maxLen; omega) (by omega) (by simp; omega) ?_; intro A2 c2 w2 g1 g2 g3 g4 g5; clear g5)
  have O2 := Lib.hid (show w2.ownsRow w.heap.size 5 1 (.slice A2 (N + 1) c2) (N + 1) ((l1 ++ [65]).map (Value.int .u8)) from by rw [List.map_append]; exact g3)
  have hB2 : Below w.heap.size w w2 := below_app (b_alloc hb1 _) (O1.out.alloc _) g4 (Nat.le_refl _) (by simp; omega)
  have G1 := Lib.hid g1
  have G2 := Lib.hid g2
  have hlen : (l1 ++ [65]).length = N + 1 := by rw [List.length_append, HN1.out]; rfl
  have hl2 : Bytes (l1 ++ [65]) := fun x hx => by
    rcases List.mem_append.1 hx with h | h
    · exact hl1 x h
    · have : x = 65 := by simpa using h
      omega
  generalize l1 ++ [65] = la at *
  have HLA := Lib.hid hlen
  clear g1 g2 g3 g4 hlen hl1
  refine (few_any A2 (N + 1) c2 la 40 40 _ rfl (rd_own O2.out) G1.out G2.out (by omega)).mono ?_
  rintro e w3 ⟨A3, c3, rfl, g1, g2, g3, hb3⟩
  rw [Nat.min_eq_left (by omega : N + 1 ≤ 40)] at g1 g3 ⊢
  have e2 := Lib.hid (List.take_of_length_le (by rw [HLA.out]; omega) : la.take 40 = la)
  rw [e2.out] at g3
  obtain ⟨g, cur, rfl, hg, hV, hcur, hNc, hcs⟩ := own_open g3 (by omega)
  have O3 := Lib.hid g3
  have hz3 := hb3.size
  have ha := around_bd p (N + 1) (by omega)
  obtain ⟨K, hK⟩ : ∃ K : Nat, around p (N + 1) = K := ⟨(around p (N + 1)).toNat, by omega⟩
  rw [hK] at ha
  go_wp2_with fail
  refine (around_any p _ _ hp.1 hp.2 (by omega) (by omega)).mono ?_
  rintro e w_ ⟨rfl, rfl⟩
  rw [hK]
  have HK := Lib.hid hK
  clear hK
  obtain ⟨b', o', hKl, e1, hb', hcell⟩ := (rd_own O3.out).openMap (k := K) (by omega)
  injection e1 with e1
  injection e1 with e1 e1'
  subst e1 e1'
  rw [Nat.zero_add] at hcell
  have hfK := hV.frozen K
  have hbx := hl2 _ (List.getElem_mem hKl)
  obtain ⟨y, hy⟩ : ∃ y, la[K] = y := ⟨_, rfl⟩
  rw [hy] at hcell hbx
  have HY := Lib.hid hy
  clear hy
  have hx1 := xor_u8 hbx hv
  by_cases hc1 : K + 1 < N + 1 ∧ (K + 1) % 8 ≠ 0
  · obtain ⟨hc1, hc2⟩ := hc1
    obtain ⟨b2, o2, hKl2, e1, hb2', hcell2⟩ := (rd_own O3.out).openMap (k := K + 1) hc1
    injection e1 with e1
    injection e1 with e1 e1'
    subst e1 e1'
    rw [Nat.zero_add] at hcell2
    have hfK2 := hV.frozen (K + 1)
    have hbx2 := hl2 _ (List.getElem_mem hKl2)
    obtain ⟨y2, hy2⟩ : ∃ y2, la[K + 1] = y2 := ⟨_, rfl⟩
    rw [hy2] at hcell2 hbx2
    have HY2 := Lib.hid hy2
    clear hy2
    have hx2 := xor_u8 hbx2 hu
    have HLY := Lib.hid (bytes_set (bytes_set hl2 K hx1) (K + 1) hx2)
    have q : (((K : Int) + 1) % 8 != 0) = true := by
      rw [bne_iff_ne]
      omega
    have HQ := Lib.hid (bytes_group (lab := txt s') hl2 HLY.out (by simp) (K / 8) (fun i hi => (set_far (by omega)).trans (set_far (by omega))))
    go_wp2_with fail
    refine name_worldC ?_
    intro X hX
    have OX := Lib.hid (show X.ownsRow w2.heap.size 5 1 (.slice (some ⟨g, 0, none⟩) (N + 1) c3) (N + 1) (((la.set K (bits .xor .u8 y v)).set (K + 1) (bits .xor .u8 y2 u)).map (Value.int .u8)) from by rw [hX]; rw [List.map_set, List.map_set]; exact own_set (own_set O3.out K _) (K + 1) _)
    have RX := Lib.hid (show Rd X X.heap.size 1 A2 (N + 1) (la.map (Value.int .u8)) from by
      rw [hX]
      exact ((((rd_own O2.out).below hb3 (Nat.le_refl _)).setCell (p := ⟨g, K, none⟩) hg _).setCell (p := ⟨g, K + 1, none⟩) hg _).more (by simpa [World.setCell] using hz3))
    have hBX : Below w.heap.size w X := by rw [hX]; exact ((b_call hB2 hb3).setCell (p := ⟨g, K, none⟩) (Nat.le_trans hB2.size hg) _).setCell (p := ⟨g, K + 1, none⟩) (Nat.le_trans hB2.size hg) _
    clear hX hcell hfK hV hcur hcs hNc hb1 hb3 hB2 
    refine (bytes_any s' (by omega) la hl2 A2 (N + 1) c2 (by omega) X RX.out).mono ?_
    rintro e w4 ⟨rfl, hb4⟩
    have hq := HQ.out
    go_wp2_with fail
    refine (bytes_any s' (by omega) ((la.set K (bits .xor .u8 y v)).set (K + 1) (bits .xor .u8 y2 u)) HLY.out (some ⟨g, 0, none⟩) (N + 1) c3 (by omega) _ (rd_step (rd_own OX.out) (by (repeat (first | (with_reducible exact Below.refl _ _) | (with_reducible assumption) | (with_reducible refine b_drew ?_) | (with_reducible refine b_drewN ?_ _) | (with_reducible refine b_alloc ?_ _) | ((with_reducible refine b_set ?_ ?_ _); rotate_left; (focus (first | omega | (simp; done) | (simp; omega) | (simp at *; omega)))) | (with_reducible refine b_call ?_ (by with_reducible assumption))))))).mono ?_
    rintro e w5 ⟨rfl, hb5⟩
    go_wp2_with fail
    refine (samebytes_any A2 (some ⟨g, 0, none⟩) (N + 1) c2 (N + 1) c3 la ((la.set K (bits .xor .u8 y v)).set (K + 1) (bits .xor .u8 y2 u)) _ (rd_step RX.out (by (repeat (first | (with_reducible exact Below.refl _ _) | (with_reducible assumption) | (with_reducible refine b_drew ?_) | (with_reducible refine b_drewN ?_ _) | (with_reducible refine b_alloc ?_ _) | ((with_reducible refine b_set ?_ ?_ _); rotate_left; (focus (first | omega | (simp; done) | (simp; omega) | (simp at *; omega)))) | (with_reducible refine b_call ?_ (by with_reducible assumption)))))) (rd_step (rd_own OX.out) (by (repeat (first | (with_reducible exact Below.refl _ _) | (with_reducible assumption) | (with_reducible refine b_drew ?_) | (with_reducible refine b_drewN ?_ _) | (with_reducible refine b_alloc ?_ _) | ((with_reducible refine b_set ?_ ?_ _); rotate_left; (focus (first | omega | (simp; done) | (simp; omega) | (simp at *; omega)))) | (with_reducible refine b_call ?_ (by with_reducible assumption)))))) (by omega) (by omega)).mono ?_
    rintro e w6 ⟨rfl, hb6⟩
    go_wp2_with fail
    refine (hlives_any _).mono ?_
    rintro e w7 ⟨rfl, hb7⟩
    go_wp2
    go_ret
    exact ⟨rfl, by (repeat (first | (with_reducible exact Below.refl _ _) | (with_reducible assumption) | (with_reducible refine b_drew ?_) | (with_reducible refine b_drewN ?_ _) | (with_reducible refine b_alloc ?_ _) | ((with_reducible refine b_set ?_ ?_ _); rotate_left; (focus (first | omega | (simp; done) | (simp; omega) | (simp at *; omega)))) | (with_reducible refine b_call ?_ (by with_reducible assumption))))⟩
  · have HLY := Lib.hid (bytes_set hl2 K hx1)
    by_cases hc2 : K + 1 < N + 1
    · have q : (((K : Int) + 1) % 8 != 0) = false := by
        rw [bne_eq_false_iff_eq]
        omega
      have h8 : (K + 1) % 8 = 0 := by omega
      have H8 := Lib.hid h8
      clear h8 hc1
      have HQ := Lib.hid (bytes_group (lab := txt s') hl2 HLY.out (by simp) (K / 8) (fun i hi => set_far (by omega)))
      go_wp2_with fail
      refine name_worldC ?_
      intro X hX
      have OX := Lib.hid (show X.ownsRow w2.heap.size 5 1 (.slice (some ⟨g, 0, none⟩) (N + 1) c3) (N + 1) ((la.set K (bits .xor .u8 y v)).map (Value.int .u8)) from by rw [hX]; rw [List.map_set]; exact own_set O3.out K _)
      have RX := Lib.hid (show Rd X X.heap.size 1 A2 (N + 1) (la.map (Value.int .u8)) from by
        rw [hX]
        exact (((rd_own O2.out).below hb3 (Nat.le_refl _)).setCell (p := ⟨g, K, none⟩) hg _).more (by simpa [World.setCell] using hz3))
      have hBX : Below w.heap.size w X := by rw [hX]; exact (b_call hB2 hb3).setCell (p := ⟨g, K, none⟩) (Nat.le_trans hB2.size hg) _
      clear hX hcell hfK hV hcur hcs hNc hb1 hb3 hB2 
      refine (bytes_any s' (by omega) la hl2 A2 (N + 1) c2 (by omega) X RX.out).mono ?_
      rintro e w4 ⟨rfl, hb4⟩
      have hq := HQ.out
      go_wp2_with fail
      refine (bytes_any s' (by omega) (la.set K (bits .xor .u8 y v)) HLY.out (some ⟨g, 0, none⟩) (N + 1) c3 (by omega) _ (rd_step (rd_own OX.out) (by (repeat (first | (with_reducible exact Below.refl _ _) | (with_reducible assumption) | (with_reducible refine b_drew ?_) | (with_reducible refine b_drewN ?_ _) | (with_reducible refine b_alloc ?_ _) | ((with_reducible refine b_set ?_ ?_ _); rotate_left; (focus (first | omega | (simp; done) | (simp; omega) | (simp at *; omega)))) | (with_reducible refine b_call ?_ (by with_reducible assumption))))))).mono ?_
      rintro e w5 ⟨rfl, hb5⟩
      go_wp2_with fail
      refine (samebytes_any A2 (some ⟨g, 0, none⟩) (N + 1) c2 (N + 1) c3 la (la.set K (bits .xor .u8 y v)) _ (rd_step RX.out (by (repeat (first | (with_reducible exact Below.refl _ _) | (with_reducible assumption) | (with_reducible refine b_drew ?_) | (with_reducible refine b_drewN ?_ _) | (with_reducible refine b_alloc ?_ _) | ((with_reducible refine b_set ?_ ?_ _); rotate_left; (focus (first | omega | (simp; done) | (simp; omega) | (simp at *; omega)))) | (with_reducible refine b_call ?_ (by with_reducible assumption)))))) (rd_step (rd_own OX.out) (by (repeat (first | (with_reducible exact Below.refl _ _) | (with_reducible assumption) | (with_reducible refine b_drew ?_) | (with_reducible refine b_drewN ?_ _) | (with_reducible refine b_alloc ?_ _) | ((with_reducible refine b_set ?_ ?_ _); rotate_left; (focus (first | omega | (simp; done) | (simp; omega) | (simp at *; omega)))) | (with_reducible refine b_call ?_ (by with_reducible assumption)))))) (by omega) (by omega)).mono ?_
      rintro e w6 ⟨rfl, hb6⟩
      go_wp2_with fail
      refine (hlives_any _).mono ?_
      rintro e w7 ⟨rfl, hb7⟩
      go_wp2
      go_ret
      exact ⟨rfl, by (repeat (first | (with_reducible exact Below.refl _ _) | (with_reducible assumption) | (with_reducible refine b_drew ?_) | (with_reducible refine b_drewN ?_ _) | (with_reducible refine b_alloc ?_ _) | ((with_reducible refine b_set ?_ ?_ _); rotate_left; (focus (first | omega | (simp; done) | (simp; omega) | (simp at *; omega)))) | (with_reducible refine b_call ?_ (by with_reducible assumption))))⟩
    · clear hc1
      have HQ := Lib.hid (bytes_group (lab := txt s') hl2 HLY.out (by simp) (K / 8) (fun i hi => set_far (by omega)))
      go_wp2_with fail
      refine name_worldC ?_
      intro X hX
      have OX := Lib.hid (show X.ownsRow w2.heap.size 5 1 (.slice (some ⟨g, 0, none⟩) (N + 1) c3) (N + 1) ((la.set K (bits .xor .u8 y v)).map (Value.int .u8)) from by rw [hX]; rw [List.map_set]; exact own_set O3.out K _)
      have RX := Lib.hid (show Rd X X.heap.size 1 A2 (N + 1) (la.map (Value.int .u8)) from by
        rw [hX]
        exact (((rd_own O2.out).below hb3 (Nat.le_refl _)).setCell (p := ⟨g, K, none⟩) hg _).more (by simpa [World.setCell] using hz3))
      have hBX : Below w.heap.size w X := by rw [hX]; exact (b_call hB2 hb3).setCell (p := ⟨g, K, none⟩) (Nat.le_trans hB2.size hg) _
      clear hX hcell hfK hV hcur hcs hNc hb1 hb3 hB2 
      refine (bytes_any s' (by omega) la hl2 A2 (N + 1) c2 (by omega) X RX.out).mono ?_
      rintro e w4 ⟨rfl, hb4⟩
      have hq := HQ.out
      go_wp2_with fail
      refine (bytes_any s' (by omega) (la.set K (bits .xor .u8 y v)) HLY.out (some ⟨g, 0, none⟩) (N + 1) c3 (by omega) _ (rd_step (rd_own OX.out) (by (repeat (first | (with_reducible exact Below.refl _ _) | (with_reducible assumption) | (with_reducible refine b_drew ?_) | (with_reducible refine b_drewN ?_ _) | (with_reducible refine b_alloc ?_ _) | ((with_reducible refine b_set ?_ ?_ _); rotate_left; (focus (first | omega | (simp; done) | (simp; omega) | (simp at *; omega)))) | (with_reducible refine b_call ?_ (by with_reducible assumption))))))).mono ?_
      rintro e w5 ⟨rfl, hb5⟩
      go_wp2_with fail
      refine (samebytes_any A2 (some ⟨g, 0, none⟩) (N + 1) c2 (N + 1) c3 la (la.set K (bits .xor .u8 y v)) _ (rd_step RX.out (by (repeat (first | (with_reducible exact Below.refl _ _) | (with_reducible assumption) | (with_reducible refine b_drew ?_) | (with_reducible refine b_drewN ?_ _) | (with_reducible refine b_alloc ?_ _) | ((with_reducible refine b_set ?_ ?_ _); rotate_left; (focus (first | omega | (simp; done) | (simp; omega) | (simp at *; omega)))) | (with_reducible refine b_call ?_ (by with_reducible assumption)))))) (rd_step (rd_own OX.out) (by (repeat (first | (with_reducible exact Below.refl _ _) | (with_reducible assumption) | (with_reducible refine b_drew ?_) | (with_reducible refine b_drewN ?_ _) | (with_reducible refine b_alloc ?_ _) | ((with_reducible refine b_set ?_ ?_ _); rotate_left; (focus (first | omega | (simp; done) | (simp; omega) | (simp at *; omega)))) | (with_reducible refine b_call ?_ (by with_reducible assumption)))))) (by omega) (by omega)).mono ?_
      rintro e w6 ⟨rfl, hb6⟩
      go_wp2_with fail
      refine (hlives_any _).mono ?_
      rintro e w7 ⟨rfl, hb7⟩
      go_wp2
      go_ret
      exact ⟨rfl, by (repeat (first | (with_reducible exact Below.refl _ _) | (with_reducible assumption) | (with_reducible refine b_drew ?_) | (with_reducible refine b_drewN ?_ _) | (with_reducible refine b_alloc ?_ _) | ((with_reducible refine b_set ?_ ?_ _); rotate_left; (focus (first | omega | (simp; done) | (simp; omega) | (simp at *; omega)))) | (with_reducible refine b_call ?_ (by with_reducible assumption))))⟩
end Go.Proofs.Ytaecimjbmdpgcaa
