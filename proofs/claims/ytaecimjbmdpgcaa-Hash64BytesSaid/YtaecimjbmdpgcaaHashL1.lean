/-
  WHAT IS PROVED HERE: the walks of the laws Hash64Sum, Hash64Bytes, Hash64Arguments: each returns true at every input and leaves old memory as it was.
-/
import Derived.Test.YtaecimjbmdpgcaaHashQ
namespace Go.Proofs.Ytaecimjbmdpgcaa
set_option linter.unusedVariables false
open Go.ChangeShapes Go.WideShapes Go.ChangeAt Go.RowKit

set_option maxHeartbeats 2000000 in
theorem hsum_walk (s : ByteArray) (hs : s.size ≤ maxLen) (A : Option Addr) (n c : Nat) (l : List Int) (w : World) (rd : Rd w w.heap.size 1 A n (l.map (Value.int .i64))) (hn : n ≤ c) (hc : c ≤ maxLen) :
    Calls Try.prog 3 #[.string s, .slice A n c] w fun e w' => e = .returned (.bool true) ∧ Below w.heap.size w w' := by
  have HC := Lib.hid hc
  have HS := Lib.hid hs
  have RD := Lib.hid rd
  clear hc hs rd
  go_enter Try.func3, Try.ntmps3
  go_wp2_with fail
  refine (short_any s 40 40 rfl (by have := HS.out; unfold maxLen at this; omega) (by omega) _).mono ?_
  rintro e w_ ⟨s', rfl, ht, hsz, rfl⟩
  have HT := Lib.hid ht
  clear ht
  go_wp2_with fail
  refine (ints_any A n c l 12 12 _ rfl RD.out hn HC.out (by omega)).mono ?_
  rintro e w1 ⟨A1, c1, rfl, g1, g2, g3, hb1⟩
  have hN : min n 12 ≤ 12 := Nat.min_le_right _ _
  generalize min n 12 = N at *
  have R1 := Lib.hid (rd_own g3)
  clear g3
  go_wp2_with fail
  refine (sum_any s' (by omega) A1 N c1 _ _ R1.out (by omega)).mono ?_
  rintro e w2 ⟨rfl, hb2⟩
  have R2 := Lib.hid (rd_step R1.out hb2)
  go_wp2_with fail
  refine (refsum_any s' (by omega) A1 N c1 _ _ R2.out (by omega)).mono ?_
  rintro e w3 ⟨rfl, hb3⟩
  go_wp2_with fail
  refine (sum_any s' (by omega) none 0 0 [] _ (Rd.nil _) (by omega)).mono ?_
  rintro e w4 ⟨rfl, hb4⟩
  go_wp2_with fail
  refine (refsum_any s' (by omega) none 0 0 [] _ (Rd.nil _) (by omega)).mono ?_
  rintro e w5 ⟨rfl, hb5⟩
  go_wp2_with fail
  refine (hlives_any _).mono ?_
  rintro e w6 ⟨rfl, hb6⟩
  go_wp2
  go_ret
  exact ⟨rfl, by (repeat (first | (with_reducible exact Below.refl _ _) | (with_reducible assumption) | (with_reducible refine b_drew ?_) | (with_reducible refine b_drewN ?_ _) | (with_reducible refine b_alloc ?_ _) | ((with_reducible refine b_set ?_ ?_ _); rotate_left; (focus (first | omega | (simp; done) | (simp; omega) | (simp at *; omega)))) | (with_reducible refine b_call ?_ (by with_reducible assumption))))⟩

set_option maxHeartbeats 2000000 in
theorem hbytes_walk (s : ByteArray) (hs : s.size ≤ maxLen) (A : Option Addr) (n c : Nat) (L : List Int) (hL : Bytes L) (x y : Int) (w : World) (rd : Rd w w.heap.size 1 A n (L.map (Value.int .u8))) (hn : n ≤ c) (hc : c ≤ maxLen) :
    Calls Try.prog 4 #[.string s, .slice A n c, .int .u64 x, .int .u64 y] w fun e w' => e = .returned (.bool true) ∧ Below w.heap.size w w' := by
  have HC := Lib.hid hc
  have HS := Lib.hid hs
  have RD := Lib.hid rd
  clear hc hs rd
  go_enter Try.func4, Try.ntmps4
  go_wp2_with fail
  refine (short_any s 20 20 rfl (by have := HS.out; unfold maxLen at this; omega) (by omega) _).mono ?_
  rintro e w_ ⟨s', rfl, ht, hsz, rfl⟩
  have HT := Lib.hid ht
  clear ht
  go_wp2_with fail
  refine (few_any A n c L 60 60 _ rfl RD.out hn HC.out (by omega)).mono ?_
  rintro e w1 ⟨A1, c1, rfl, g1, g2, g3, hb1⟩
  have hN : min n 60 ≤ 60 := Nat.min_le_right _ _
  generalize min n 60 = N at *
  have R1 := Lib.hid (rd_own g3)
  clear g3
  go_wp2_with fail
  refine (bytes_any s' (by omega) _ (hL.take 60) A1 N c1 (by omega) _ R1.out).mono ?_
  rintro e w2 ⟨rfl, hb2⟩
  have R2 := Lib.hid (rd_step R1.out hb2)
  go_wp2_with fail
  refine (refbytes_any s' (by omega) _ (hL.take 60) A1 N c1 _ R2.out (by omega)).mono ?_
  rintro e w3 ⟨rfl, hb3⟩
  go_wp2_with fail
  refine (pair_any x y _).mono ?_
  rintro e w4 ⟨rfl, hb4⟩
  go_wp2_with fail
  refine (refpair_any x y _).mono ?_
  rintro e w5 ⟨rfl, hb5⟩
  go_wp2_with fail
  refine (hlives_any _).mono ?_
  rintro e w6 ⟨rfl, hb6⟩
  go_wp2
  go_ret
  exact ⟨rfl, by (repeat (first | (with_reducible exact Below.refl _ _) | (with_reducible assumption) | (with_reducible refine b_drew ?_) | (with_reducible refine b_drewN ?_ _) | (with_reducible refine b_alloc ?_ _) | ((with_reducible refine b_set ?_ ?_ _); rotate_left; (focus (first | omega | (simp; done) | (simp; omega) | (simp at *; omega)))) | (with_reducible refine b_call ?_ (by with_reducible assumption))))⟩

abbrev sameTxt : ByteArray := ⟨#[115, 97, 109, 101]⟩
set_option maxHeartbeats 2000000 in
theorem hargs_walk (A : Option Addr) (n c : Nat) (l : List Int) (A' : Option Addr) (n' c' : Nat) (L : List Int) (hL : Bytes L) (w : World) (rd : Rd w w.heap.size 1 A n (l.map (Value.int .i64))) (hn : n ≤ c) (hc : c ≤ maxLen) (rd' : Rd w w.heap.size 1 A' n' (L.map (Value.int .u8))) (hn' : n' ≤ c') (hc' : c' ≤ maxLen) :
    Calls Try.prog 10 #[.slice A n c, .slice A' n' c'] w fun e w' => e = .returned (.bool true) ∧ Below w.heap.size w w' := by
  have HC := Lib.hid hc
  have HC' := Lib.hid hc'
  have RD := Lib.hid rd
  have RD' := Lib.hid rd'
  clear hc hc' rd rd'
  go_enter Try.func10, Try.ntmps10
  go_wp2_with fail
  refine (ints_any A n c l 10 10 _ rfl RD.out hn HC.out (by omega)).mono ?_
  rintro e w1 ⟨A1, c1, rfl, g1, g2, g3, hb1⟩
  have hN : min n 10 ≤ 10 := Nat.min_le_right _ _
  generalize hNe : min n 10 = N at *
  have HN := Lib.hid hNe
  clear hNe
  have R1 := Lib.hid (rd_own g3)
  clear g3
  go_wp2_with fail
  refine (few_any A' n' c' L 30 30 _ rfl (rd_step RD'.out hb1) hn' HC'.out (by omega)).mono ?_
  rintro e w2 ⟨A2, c2, rfl, g1', g2', g3, hb2⟩
  have hM : min n' 30 ≤ 30 := Nat.min_le_right _ _
  generalize hMe : min n' 30 = M at *
  have HM := Lib.hid hMe
  clear hMe
  have S1 := Lib.hid (rd_step R1.out hb2)
  have S2 := Lib.hid (rd_own g3)
  clear g3
  go_wp2_with fail
  refine (sum_any sameTxt (by decide) A1 N c1 _ _ S1.out (by omega)).mono ?_
  rintro e w3 ⟨rfl, hb3⟩
  go_wp2_with fail
  refine (bytes_any sameTxt (by decide) _ (hL.take 30) A2 M c2 (by omega) _ (rd_step S2.out hb3)).mono ?_
  rintro e w4 ⟨rfl, hb4⟩
  have B4 := Lib.hid (b_call hb3 hb4)
  go_wp2_with fail
  refine (ints_any A n c l 10 10 _ rfl (rd_step RD.out (by (repeat (first | (with_reducible exact Below.refl _ _) | (with_reducible assumption) | (with_reducible refine b_drew ?_) | (with_reducible refine b_drewN ?_ _) | (with_reducible refine b_alloc ?_ _) | ((with_reducible refine b_set ?_ ?_ _); rotate_left; (focus (first | omega | (simp; done) | (simp; omega) | (simp at *; omega)))) | (with_reducible refine b_call ?_ (by with_reducible assumption)))))) hn HC.out (by omega)).mono ?_
  rintro e w5 ⟨A5, c5, rfl, g15, g25, g3, hb5⟩
  have R5 := Lib.hid (rd_own g3)
  clear g3
  rw [HN.out] at *
  go_wp2_with fail
  refine (sameints_any A1 A5 N c1 N c5 _ _ _ (rd_step S1.out (by (repeat (first | (with_reducible exact Below.refl _ _) | (with_reducible assumption) | (with_reducible refine b_drew ?_) | (with_reducible refine b_drewN ?_ _) | (with_reducible refine b_alloc ?_ _) | ((with_reducible refine b_set ?_ ?_ _); rotate_left; (focus (first | omega | (simp; done) | (simp; omega) | (simp at *; omega)))) | (with_reducible refine b_call ?_ (by with_reducible assumption)))))) R5.out (by omega) (by omega)).mono ?_
  rintro e w6 ⟨rfl, hb6⟩
  go_wp2_with fail
  refine (few_any A' n' c' L 30 30 _ rfl (rd_step RD'.out (by (repeat (first | (with_reducible exact Below.refl _ _) | (with_reducible assumption) | (with_reducible refine b_drew ?_) | (with_reducible refine b_drewN ?_ _) | (with_reducible refine b_alloc ?_ _) | ((with_reducible refine b_set ?_ ?_ _); rotate_left; (focus (first | omega | (simp; done) | (simp; omega) | (simp at *; omega)))) | (with_reducible refine b_call ?_ (by with_reducible assumption)))))) hn' HC'.out (by omega)).mono ?_
  rintro e w7 ⟨A7, c7, rfl, g17, g27, g3, hb7⟩
  have R7 := Lib.hid (rd_own g3)
  clear g3
  rw [HM.out] at *
  go_wp2_with fail
  refine (samebytes_any A2 A7 M c2 M c7 _ _ _ (rd_step S2.out (by (repeat (first | (with_reducible exact Below.refl _ _) | (with_reducible assumption) | (with_reducible refine b_drew ?_) | (with_reducible refine b_drewN ?_ _) | (with_reducible refine b_alloc ?_ _) | ((with_reducible refine b_set ?_ ?_ _); rotate_left; (focus (first | omega | (simp; done) | (simp; omega) | (simp at *; omega)))) | (with_reducible refine b_call ?_ (by with_reducible assumption)))))) R7.out (by omega) (by omega)).mono ?_
  rintro e w8 ⟨rfl, hb8⟩
  go_wp2_with fail
  refine (sum_any sameTxt (by decide) A1 N c1 _ _ (rd_step S1.out (by (repeat (first | (with_reducible exact Below.refl _ _) | (with_reducible assumption) | (with_reducible refine b_drew ?_) | (with_reducible refine b_drewN ?_ _) | (with_reducible refine b_alloc ?_ _) | ((with_reducible refine b_set ?_ ?_ _); rotate_left; (focus (first | omega | (simp; done) | (simp; omega) | (simp at *; omega)))) | (with_reducible refine b_call ?_ (by with_reducible assumption)))))) (by omega)).mono ?_
  rintro e w9 ⟨rfl, hb9⟩
  go_wp2_with fail
  refine (bytes_any sameTxt (by decide) _ (hL.take 30) A2 M c2 (by omega) _ (rd_step S2.out (by (repeat (first | (with_reducible exact Below.refl _ _) | (with_reducible assumption) | (with_reducible refine b_drew ?_) | (with_reducible refine b_drewN ?_ _) | (with_reducible refine b_alloc ?_ _) | ((with_reducible refine b_set ?_ ?_ _); rotate_left; (focus (first | omega | (simp; done) | (simp; omega) | (simp at *; omega)))) | (with_reducible refine b_call ?_ (by with_reducible assumption))))))).mono ?_
  rintro e w10 ⟨rfl, hb10⟩
  go_wp2_with fail
  refine (hlives_any _).mono ?_
  rintro e w11 ⟨rfl, hb11⟩
  go_wp2
  go_ret
  exact ⟨rfl, by (repeat (first | (with_reducible exact Below.refl _ _) | (with_reducible assumption) | (with_reducible refine b_drew ?_) | (with_reducible refine b_drewN ?_ _) | (with_reducible refine b_alloc ?_ _) | ((with_reducible refine b_set ?_ ?_ _); rotate_left; (focus (first | omega | (simp; done) | (simp; omega) | (simp at *; omega)))) | (with_reducible refine b_call ?_ (by with_reducible assumption))))⟩
end Go.Proofs.Ytaecimjbmdpgcaa
