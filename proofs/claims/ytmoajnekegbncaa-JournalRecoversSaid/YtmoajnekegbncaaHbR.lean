/-
  WHAT IS PROVED HERE: the contract of the reference's Bytes. No condition but bounds that every machine's lengths meet.
-/
import Derived.Test.YtmoajnekegbncaaHsR
import Derived.Test.YtmoajnekegbncaaHbB
namespace Go.Proofs.Ytmoajnekegbncaa
set_option linter.unusedVariables false
open Go.ChangeShapes Go.WideShapes Go.ChangeAt Go.RowKit

theorem sum_words (lab L : List Int) (hL : Bytes L) (hl : L.length ≤ 1000000000000) : sumI lab ((wordsI L).map wrap64 ++ [(L.length : Int)]) = bytesI lab L := by
  have h1 : ((wordsI L).map wrap64 ++ [(L.length : Int)]).map u64w = wordsI L ++ [(L.length : Int)] := by
    rw [List.map_append, List.map_map]
    congr 1
    · conv => rhs; rw [← List.map_id (wordsI L)]
      exact List.map_congr_left fun x hx => int_of_u64 (wordsI_u64 hL x hx)
    · simp only [List.map_cons, List.map_nil, IntKind.wrap_u64]
      congr 1
      omega
  unfold sumI bytesI
  rw [h1, absorb_snoc]
  congr 4
  simp [wordsI_length]

theorem slInts : SlT Try.prog 22 3 1 8 := .mk' (z := .int .i64 0) Try.underlying22 (by kernel_rfl) rfl (by omega)

set_option maxHeartbeats 4000000 in
theorem refbytes_any (s : ByteArray) (hs : s.size ≤ 1000000000000) (L : List Int) (hL : Bytes L) (A : Option Addr) (n c : Nat) (w : World) (rd : Rd w w.heap.size 1 A n (L.map (Value.int .u8))) (hn : n ≤ 1000000000000) :
    Calls Try.prog 29 #[.string s, .slice A n c] w fun e w' => e = .returned (.int .u64 (bytesI (txt s) L)) ∧ Below w.heap.size w w' := by
  have hll : L.length = n := by have := rd.1; simpa using this
  have HL := Lib.hid hll
  have HW := Lib.hid (show (wordsI L).length = (n + 7) / 8 from by rw [wordsI_length, hll])
  clear hll
  go_enter Try.func29, Try.ntmps29
  go_wp2_with fail
  refine (refwords_any _ n _ L hL _ rd hn).mono ?_
  rintro e w1 ⟨A1, c1, rfl, hc1, hc2, hown, hb1⟩
  have RW := Lib.hid (rd_own hown)
  have hws := wordsI_u64 hL
  clear hown rd
  have hN : (n + 7) / 8 ≤ 1000000000000 := by omega
  generalize hNe : (n + 7) / 8 = N at *
  have HNE := Lib.hid hNe
  clear hNe
  go_wp2
  go_loopw [6, 7] (fun v i wr => ∃ (k : Nat) (A' : Option Addr) (c' : Nat), k ≤ N ∧ i = .int .i64 k ∧ v = .slice A' k c' ∧ wr.ownsRow w1.heap.size 3 1 (.slice A' k c') k ((((wordsI L).map wrap64).take k).map (Value.int .i64)) ∧ k ≤ c' ∧ c' ≤ maxLen ∧ Below w1.heap.size w1 wr) (fun _ i _ => N - (intOf i).toNat)
  case atStart => exact ⟨0, none, 0, by omega, rfl, rfl, own_nil _ _ _ _, by omega, by simp [maxLen], Below.refl _ _⟩
  case round =>
    obtain ⟨k, A', c', hk, rfl, rfl, hown, hc3, hc4, hB⟩ := hrel
    by_cases hlt : k < N
    · obtain ⟨b, o, hl, rfl, hb, hcell⟩ := (RW.out.below hB (Nat.le_refl _)).openMap hlt
      have E1 := Lib.hid (take_map_succ wrap64 (wordsI L) hl)
      go_wp2_with (at_builtin; refine wpList_app _ rfl (.tmp 16) (.tmp 22) slInts rfl rfl (hown.alloc _) rfl (rd_lit wr _ _ rfl rfl) (by intro u hu; simp at hu; subst hu; rfl) (k + 1) rfl (by unfold maxLen; omega) (by omega) (by have := hB.size; simp; omega) ?_; intro A2 c2 w2 g1 g2 g3 g4 _)
      go_roundw
      case rel => exact ⟨k + 1, A2, c2, by omega, by go_num, rfl, by rw [E1.out, List.map_append]; exact g3, g1, g2, below_app (b_alloc hB _) (hown.alloc _) g4 (Nat.le_refl _) (by have := hB.size; simp; omega)⟩
      case measure => simp [intOf]; omega
    · obtain rfl : N = k := by omega
      have E1 := Lib.hid (List.take_of_length_le (by rw [List.length_map, HW.out]; omega) : ((wordsI L).map wrap64).take N = (wordsI L).map wrap64)
      go_wp2_with (at_builtin; refine wpList_app _ rfl (.tmp 25) (.tmp 28) slInts rfl rfl (hown.alloc _) rfl (rd_lit wr _ _ rfl rfl) (by intro u hu; simp at hu; subst hu; rfl) (N + 1) rfl (by unfold maxLen; omega) (by omega) (by have := hB.size; simp; omega) ?_; intro A2 c2 w2 g1 g2 g3 g4 _)
      have HR := Lib.hid (show Rd w2 w2.heap.size 1 A2 (N + 1) (((wordsI L).map wrap64 ++ [(n : Int)]).map (Value.int .i64)) from by rw [List.map_append, ← E1.out]; exact rd_own g3)
      have hB2 := below_app (b_alloc hB _) (hown.alloc _) g4 (Nat.le_refl _) (by have := hB.size; simp; omega)
      clear g3 g4
      go_wp2_with fail
      refine (refsum_any s hs A2 (N + 1) c2 _ w2 HR.out (by omega)).mono ?_
      rintro e w3 ⟨rfl, hb3⟩
      go_wp2
      go_ret
      exact ⟨ret_int (by rw [← sum_words (txt s) L hL (by rw [HL.out]; exact hn), HL.out]), b_call (b_call hb1 hB2) hb3⟩

end Go.Proofs.Ytmoajnekegbncaa
