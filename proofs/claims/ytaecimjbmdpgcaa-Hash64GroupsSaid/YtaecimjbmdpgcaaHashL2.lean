/-
  WHAT IS PROVED HERE: the walk of the law Hash64Groups: it returns true at every input and leaves old memory as it was.
-/
import Derived.Test.YtaecimjbmdpgcaaHashQ
namespace Go.Proofs.Ytaecimjbmdpgcaa
set_option linter.unusedVariables false
open Go.ChangeShapes Go.WideShapes Go.ChangeAt Go.RowKit

theorem leI_zero (l : List Int) : leI (l ++ [0]) = leI l := by
  rw [leI_snoc]
  omega
theorem wordsI_zero (L : List Int) (h : L.length % 8 ≠ 0) : wordsI (L ++ [0]) = wordsI L := by
  unfold wordsI
  have hm : ((L ++ [0]).length + 7) / 8 = (L.length + 7) / 8 := by
    rw [List.length_append]
    simp only [List.length_cons, List.length_nil]
    omega
  rw [hm]
  refine List.map_congr_left fun i hi => ?_
  have hi' : i < (L.length + 7) / 8 := by simpa using hi
  rw [List.drop_append_of_le_length (by omega)]
  by_cases h8 : 8 ≤ (L.drop (8 * i)).length
  · rw [List.take_append_of_le_length h8]
  · rw [List.take_of_length_le (by rw [List.length_append]; simp only [List.length_cons, List.length_nil]; omega), leI_zero, List.take_of_length_le (by omega)]
theorem bytesI_zero (lab L : List Int) (h : L.length % 8 ≠ 0) (hl : L.length ≤ 1000) : (bytesI lab (L ++ [0]) != bytesI lab L) = true := by
  rw [bne_iff_ne]
  intro he
  unfold bytesI at he
  have h1 := mixI_left (mixI_u64 _ _) (mixI_u64 _ _) he
  rw [wordsI_zero L h] at h1
  have hm : ((L ++ [0]).length + 7) / 8 = (L.length + 7) / 8 := by
    rw [List.length_append]
    simp only [List.length_cons, List.length_nil]
    omega
  rw [hm] at h1
  have hl2 : (L ++ [0]).length = L.length + 1 := by simp
  rw [hl2] at h1
  have h2 := mixI_right ⟨by omega, by omega⟩ ⟨by omega, by omega⟩ h1
  omega

theorem bytes_zero {L : List Int} (h : Bytes L) : Bytes (L ++ [0]) := by
  intro x hx
  rcases List.mem_append.1 hx with h1 | h1
  · exact h x h1
  · have : x = 0 := by simpa using h1
    omega

set_option maxHeartbeats 8000000 in
theorem hgroups_walk (s : ByteArray) (hs : s.size ≤ maxLen) (A : Option Addr) (n c : Nat) (L : List Int) (hL : Bytes L) (w : World) (rd : Rd w w.heap.size 1 A n (L.map (Value.int .u8))) (hn : n ≤ c) (hc : c ≤ maxLen) :
    Calls Try.prog 8 #[.string s, .slice A n c] w fun e w' => e = .returned (.bool true) ∧ Below w.heap.size w w' := by
  have HC := Lib.hid hc
  have HS := Lib.hid hs
  have RD := Lib.hid rd
  have hLL : L.length = n := by have := rd.1; simpa using this
  have HN1 := Lib.hid (show (L.take 60).length = min n 60 from by rw [List.length_take, hLL, Nat.min_comm])
  clear hc hs rd hLL
  go_enter Try.func8, Try.ntmps8
  go_wp2_with fail
  refine (short_any s 20 20 rfl (by have := HS.out; unfold maxLen at this; omega) (by omega) _).mono ?_
  rintro e w_ ⟨s', rfl, ht, hsz, rfl⟩
  clear ht
  go_wp2_with fail
  refine (few_any A n c L 60 60 _ rfl RD.out hn HC.out (by omega)).mono ?_
  rintro e w1 ⟨A1, c1, rfl, g1, g2, g3, hb1⟩
  have hN : min n 60 ≤ 60 := Nat.min_le_right _ _
  generalize min n 60 = N at *
  have hL1 := hL.take 60
  generalize L.take 60 = L1 at *
  have R1 := Lib.hid (rd_own g3)
  have C1 := Lib.hid g2
  have G1 := Lib.hid g1
  clear g3 g2 g1
  go_wp2_with fail
  refine (refwords_any _ N _ L1 hL1 _ R1.out (by omega)).mono ?_
  rintro e w2 ⟨A2, c2, rfl, hc1, hc2, hown, hb2⟩
  have HW := Lib.hid (show (wordsI L1).length = (N + 7) / 8 from by rw [wordsI_length, HN1.out])
  have RW := Lib.hid (rd_own hown)
  have hN2 : (N + 7) / 8 ≤ 100 := by omega
  generalize (N + 7) / 8 = M at *
  clear hown
  have hB2 : Below w.heap.size w w2 := b_call hb1 hb2
  have HB12 := Lib.hid hb2
  clear hb1 hb2
  go_wp2
  go_loopw [8, 9] (fun v i wr => ∃ (k : Nat) (A' : Option Addr) (c' : Nat), k ≤ M ∧ i = .int .i64 k ∧ v = .slice A' k c' ∧ wr.ownsRow w2.heap.size 3 1 (.slice A' k c') k ((((wordsI L1).map wrap64).take k).map (Value.int .i64)) ∧ k ≤ c' ∧ c' ≤ maxLen ∧ Below w2.heap.size w2 wr) (fun _ i _ => M - (intOf i).toNat)
  case atStart => exact ⟨0, none, 0, by omega, rfl, rfl, own_nil _ _ _ _, by omega, by simp [maxLen], Below.refl _ _⟩
  case round =>
    obtain ⟨k, A', c', hk, rfl, rfl, hown, hc3, hc4, hB⟩ := hrel
    by_cases hlt : k < M
    · obtain ⟨b, o, hl, rfl, hb, hcell⟩ := (RW.out.below hB (Nat.le_refl _)).openMap hlt
      have E1 := Lib.hid (take_map_succ wrap64 (wordsI L1) hl)
      go_wp2_with (at_builtin; refine wpList_app _ rfl (.tmp 23) (.tmp 29) slInts rfl rfl (hown.alloc _) rfl (rd_lit wr _ _ rfl rfl) (by intro u hu; simp at hu; subst hu; rfl) (k + 1) rfl (by unfold maxLen; omega) (by omega) (by have := hB.size; simp; omega) ?_; intro A3 c3 w3 g1 g2 g3 g4 g5; clear g5)
      go_roundw
      case rel => exact ⟨k + 1, A3, c3, by omega, by go_num, rfl, by rw [E1.out, List.map_append]; exact g3, g1, g2, below_app (b_alloc hB _) (hown.alloc _) g4 (Nat.le_refl _) (by have := hB.size; simp; omega)⟩
      case measure => simp [intOf]; omega
    · obtain rfl : M = k := by omega
      have E1 := Lib.hid (List.take_of_length_le (by rw [List.length_map, HW.out]; omega) : ((wordsI L1).map wrap64).take M = (wordsI L1).map wrap64)
      have hBr : Below w.heap.size w wr := b_call hB2 hB
      have hB1r : Below w1.heap.size w1 wr := b_call HB12.out hB
      go_wp2_with fail
      refine (bytes_any s' (by omega) L1 hL1 A1 N c1 (by omega) _ (rd_step R1.out hB1r)).mono ?_
      rintro e w4 ⟨rfl, hb4⟩
      have hown4 := own_below hown hb4
      have hz4 := hb4.size
      have hz := hB.size
      have HO := Lib.hid hown4
      clear hown hown4
      go_wp2_with (at_builtin; refine wpList_app _ rfl (.tmp 35) (.tmp 38) slInts rfl rfl (HO.out.alloc _) rfl (rd_lit w4 _ _ rfl rfl) (by intro u hu; simp at hu; subst hu; rfl) (M + 1) rfl (by unfold maxLen; omega) (by omega) (by simp; omega) ?_; intro A5 c5 w5 g1 g2 g3 g4 g5; clear g5)
      have HR := Lib.hid (show Rd w5 w5.heap.size 1 A5 (M + 1) (((wordsI L1).map wrap64 ++ [(N : Int)]).map (Value.int .i64)) from by rw [List.map_append, ← E1.out]; exact rd_own g3)
      have hB5 : Below w.heap.size w w5 := below_app (b_alloc (b_call hBr hb4) _) (HO.out.alloc _) g4 (by have := hB2.size; omega) (by simp; have := hB2.size; omega)
      have hB15 : Below w1.heap.size w1 w5 := below_app (b_alloc (b_call hB1r hb4) _) (HO.out.alloc _) g4 (by have := HB12.out.size; omega) (by simp; have := HB12.out.size; omega)
      clear g3 g4 g1 g2
      have q1 : sumI (txt s') ((wordsI L1).map wrap64 ++ [(N : Int)]) = bytesI (txt s') L1 := by rw [← HN1.out]; exact sum_words _ _ hL1 (by rw [HN1.out]; omega)
      have Q1 := Lib.hid q1
      clear q1
      go_wp2_with fail
      refine (sum_any s' (by omega) A5 (M + 1) c5 _ _ HR.out (by omega)).mono ?_
      rintro e w6 ⟨rfl, hb6⟩
      rw [Q1.out]
      go_wp2_with fail
      refine (few_any A1 N c1 L1 60 60 _ rfl (rd_step R1.out (by (repeat (first | (with_reducible exact Below.refl _ _) | (with_reducible assumption) | (with_reducible refine b_drew ?_) | (with_reducible refine b_drewN ?_ _) | (with_reducible refine b_alloc ?_ _) | ((with_reducible refine b_set ?_ ?_ _); rotate_left; (focus (first | omega | (simp; done) | (simp; omega) | (simp at *; omega)))) | (with_reducible refine b_call ?_ (by with_reducible assumption)))))) G1.out C1.out (by omega)).mono ?_
      rintro e w7 ⟨A7, c7, rfl, g17, g27, g3, hb7⟩
      rw [Nat.min_eq_left hN] at g17 g3 ⊢
      have e2 := Lib.hid (List.take_of_length_le (by rw [HN1.out]; omega) : L1.take 60 = L1)
      rw [e2.out] at g3
      have HO7 := Lib.hid g3
      have hz6 := hb7.size
      clear g3 g17 g27
      by_cases hr : N % 8 = 0
      · have q : ((N : Int) % 8 == 0) = true := by
          rw [beq_iff_eq]
          omega
        go_wp2_with (at_builtin; refine wpList_app _ rfl (.tmp 43) (.tmp 44) slBytes rfl rfl (HO7.out.alloc _) rfl (rd_lit w7 _ _ rfl rfl) (by intro u hu; simp at hu; subst hu; rfl) (N + 1) rfl (by unfold maxLen; omega) (by omega) (by simp; omega) ?_; intro A8 c8 w8 g1 g2 g3 g4 g5; clear g5)
        have HR8 := Lib.hid (show Rd w8 w8.heap.size 1 A8 (N + 1) ((L1 ++ [0]).map (Value.int .u8)) from by rw [List.map_append]; exact rd_own g3)
        have hB7 : Below w.heap.size w w7 := b_call (b_call hB5 hb6) hb7
        have hB17 : Below w1.heap.size w1 w7 := b_call (b_call hB15 hb6) hb7
        have hB8 : Below w.heap.size w w8 := below_app (b_alloc hB7 _) (HO7.out.alloc _) g4 (by have := hB5.size; have := hb6.size; omega) (by simp; have := hB7.size; omega)
        have hB18 : Below w1.heap.size w1 w8 := below_app (b_alloc hB17 _) (HO7.out.alloc _) g4 (by have := hB15.size; have := hb6.size; omega) (by simp; have := hB17.size; omega)
        clear g3 g4 g1 g2
        go_wp2_with fail
        refine (hlives_any _).mono ?_
        rintro e w9 ⟨rfl, hb9⟩
        go_wp2
        go_ret
        exact ⟨rfl, by (repeat (first | (with_reducible exact Below.refl _ _) | (with_reducible assumption) | (with_reducible refine b_drew ?_) | (with_reducible refine b_drewN ?_ _) | (with_reducible refine b_alloc ?_ _) | ((with_reducible refine b_set ?_ ?_ _); rotate_left; (focus (first | omega | (simp; done) | (simp; omega) | (simp at *; omega)))) | (with_reducible refine b_call ?_ (by with_reducible assumption))))⟩
      · have hr1 : 1 ≤ N % 8 := by omega
        go_wp2_with (at_builtin; refine wpList_app _ rfl (.tmp 43) (.tmp 44) slBytes rfl rfl (HO7.out.alloc _) rfl (rd_lit w7 _ _ rfl rfl) (by intro u hu; simp at hu; subst hu; rfl) (N + 1) rfl (by unfold maxLen; omega) (by omega) (by simp; omega) ?_; intro A8 c8 w8 g1 g2 g3 g4 g5; clear g5)
        have HR8 := Lib.hid (show Rd w8 w8.heap.size 1 A8 (N + 1) ((L1 ++ [0]).map (Value.int .u8)) from by rw [List.map_append]; exact rd_own g3)
        have hB7 : Below w.heap.size w w7 := b_call (b_call hB5 hb6) hb7
        have hB17 : Below w1.heap.size w1 w7 := b_call (b_call hB15 hb6) hb7
        have hB8 : Below w.heap.size w w8 := below_app (b_alloc hB7 _) (HO7.out.alloc _) g4 (by have := hB5.size; have := hb6.size; omega) (by simp; have := hB7.size; omega)
        have hB18 : Below w1.heap.size w1 w8 := below_app (b_alloc hB17 _) (HO7.out.alloc _) g4 (by have := hB15.size; have := hb6.size; omega) (by simp; have := hB17.size; omega)
        clear g3 g4 g1 g2
        have q2 := bytesI_zero (txt s') L1 (by rw [HN1.out]; exact hr) (by rw [HN1.out]; omega)
        refine (bytes_any s' (by omega) (L1 ++ [0]) (bytes_zero hL1) A8 (N + 1) c8 (by omega) _ HR8.out).mono ?_
        rintro e w9 ⟨rfl, hb9⟩
        go_wp2_with fail
        refine (bytes_any s' (by omega) L1 hL1 A1 N c1 (by omega) _ (rd_step R1.out (by (repeat (first | (with_reducible exact Below.refl _ _) | (with_reducible assumption) | (with_reducible refine b_drew ?_) | (with_reducible refine b_drewN ?_ _) | (with_reducible refine b_alloc ?_ _) | ((with_reducible refine b_set ?_ ?_ _); rotate_left; (focus (first | omega | (simp; done) | (simp; omega) | (simp at *; omega)))) | (with_reducible refine b_call ?_ (by with_reducible assumption))))))).mono ?_
        rintro e w10 ⟨rfl, hb10⟩
        go_wp2_with fail
        refine (hlives_any _).mono ?_
        rintro e w11 ⟨rfl, hb11⟩
        go_wp2
        go_ret
        exact ⟨rfl, by (repeat (first | (with_reducible exact Below.refl _ _) | (with_reducible assumption) | (with_reducible refine b_drew ?_) | (with_reducible refine b_drewN ?_ _) | (with_reducible refine b_alloc ?_ _) | ((with_reducible refine b_set ?_ ?_ _); rotate_left; (focus (first | omega | (simp; done) | (simp; omega) | (simp at *; omega)))) | (with_reducible refine b_call ?_ (by with_reducible assumption))))⟩
end Go.Proofs.Ytaecimjbmdpgcaa
