/-
  WHAT IS PROVED HERE: contracts of the hash's reference (Sum, Bytes, Pair) and of Short. No condition but bounds that every machine's lengths meet.
-/
import Derived.Test.YtaecimjbmdpgcaaHashS
namespace Go.Proofs.Ytaecimjbmdpgcaa
set_option linter.unusedVariables false
open Go.ChangeShapes Go.WideShapes Go.ChangeAt Go.RowKit

theorem rd_strbytes {W : World} {g B : Nat} {s : ByteArray} {cap : Nat} {e : TypeId} {fr : Nat × Nat} (h : W.heap[g]? = some (.cells (bytesRow s cap) e fr)) (hB : g < B) : Rd W B 1 (some ⟨g, 0, none⟩) s.size ((txt s).map (Value.int .u8)) := by
  refine ⟨by simp [txt_length], fun _ => ⟨g, 0, rfl, hB, fun j u hu => ?_⟩⟩
  obtain ⟨hj, hu⟩ := List.getElem?_eq_some_iff.1 hu
  have hj' : j < s.data.size := by
    rw [List.length_map, txt_length] at hj
    exact hj
  rw [Nat.zero_add, World.cell?]
  simp only [h]
  rw [← hu]
  simp only [Option.isSome_none, Bool.false_eq_true, if_false]
  rw [bytesRow_at s cap j hj']
  simp [txt]

set_option maxHeartbeats 4000000 in
theorem refsum_any (s : ByteArray) (hs : s.size ≤ 1000000000000) (A : Option Addr) (n c : Nat) (l : List Int) (w : World) (rd : Rd w w.heap.size 1 A n (l.map (Value.int .i64))) (hn : n ≤ 9223372036854775000) :
    Calls Try.prog 14 #[.string s, .slice A n c] w fun e w' => e = .returned (.int .u64 (sumI (txt s) l)) ∧ Below w.heap.size w w' := by
  have hll : l.length = n := by have := rd.1; simpa using this
  have HL := Lib.hid hll
  have RD := Lib.hid rd
  clear hll rd
  have hcv := fun W => run_bytes_of_string (P := Try.prog) W 9 30 5 s Try.underlying9 Try.underlying30 Try.underlying5
  go_enter Try.func14, Try.ntmps14
  go_wp2_with fail
  refine (refwords_any _ s.size _ (txt s) (txt_bytes s) _ (rd_strbytes (by exact World.alloc_heap_new w _) (by simp)) hs).mono ?_
  rintro e w1 ⟨A1, c1, rfl, hc1, hc2, hown, hb1⟩
  have hB1 : Below w.heap.size w w1 := by (repeat (first | (with_reducible exact Below.refl _ _) | (with_reducible assumption) | (with_reducible refine b_drew ?_) | (with_reducible refine b_drewN ?_ _) | (with_reducible refine b_alloc ?_ _) | ((with_reducible refine b_set ?_ ?_ _); rotate_left; (focus (first | omega | (simp; done) | (simp; omega) | (simp at *; omega)))) | (with_reducible refine b_call ?_ (by with_reducible assumption))))
  have RW := Lib.hid (rd_own hown)
  have HW := Lib.hid (show (wordsI (txt s)).length = (s.size + 7) / 8 from by rw [wordsI_length, txt_length])
  have hws := wordsI_u64 (txt_bytes s)
  clear hb1 hown hcv
  have hN : (s.size + 7) / 8 ≤ 1000000000000 := by omega
  generalize (s.size + 7) / 8 = N at *
  go_wp2
  go_loopw [5, 7] (fun st i wr => ∃ k : Nat, k ≤ N ∧ i = .int .i64 k ∧ st = .int .u64 (absorb 0 ((wordsI (txt s)).take k)) ∧ Below w1.heap.size w1 wr) (fun _ i _ => N - (intOf i).toNat)
  case atStart => exact ⟨0, by omega, rfl, rfl, Below.refl _ _⟩
  case round =>
    obtain ⟨k, hk, rfl, rfl, hB⟩ := hrel
    have hu := absorb_u64 (show U64 0 from ⟨by omega, by omega⟩) ((wordsI (txt s)).take k)
    by_cases hlt : k < N
    · obtain ⟨b, o, hl, rfl, hb, hcell⟩ := (RW.out.below hB (Nat.le_refl _)).openMap hlt
      have hx := hws _ (List.getElem_mem hl)
      have E1 := Lib.hid (List.take_succ_eq_append_getElem hl)
      go_wp2_with (go_at_call 27; refine (refmix_any _ _ _ hu hx).mono ?_; rintro e w' ⟨rfl, rfl⟩)
      go_roundw
      case rel => exact ⟨k + 1, by omega, by go_num, by rw [E1.out, absorb_snoc], hB⟩
      case measure => simp [intOf]; omega
    · have E1 := Lib.hid (List.take_of_length_le (by rw [HW.out]; omega) : (wordsI (txt s)).take k = wordsI (txt s))
      rw [E1.out]
      rw [E1.out] at hu
      clear hws E1
      have h1 : U64 (s.size : Int) := ⟨by omega, by omega⟩
      have h2 : U64 (n : Int) := ⟨by omega, by omega⟩
      have hB2 : Below w.heap.size w wr := b_call hB1 hB
      clear hB
      go_wp2_with fail
      refine (refmix_any _ _ _ hu h1).mono ?_
      rintro e w_ ⟨rfl, rfl⟩
      go_wp2_with fail
      refine (refmix_any _ _ _ (mixI_u64 _ _) h2).mono ?_
      rintro e w_ ⟨rfl, rfl⟩
      go_wp2
      go_loopw [5, 8] (fun st i wr' => ∃ k : Nat, k ≤ n ∧ i = .int .i64 k ∧ st = .int .u64 (absorb (beginI (txt s) n) ((l.map u64w).take k)) ∧ Below w.heap.size w wr') (fun _ i _ => n - (intOf i).toNat)
      case atStart => exact ⟨0, by omega, rfl, by rw [beginI, txt_length]; rfl, hB2⟩
      case round =>
        obtain ⟨k', hk', rfl, rfl, hB'⟩ := hrel
        have hu' := absorb_u64 (beginI_u64 (txt s) n) ((l.map u64w).take k')
        by_cases hlt' : k' < n
        · obtain ⟨b, o, hl, rfl, hb, hcell⟩ := (RD.out.below hB' (Nat.le_refl _)).openMap hlt'
          have E1 := Lib.hid (take_map_succ u64w l hl)
          go_wp2_with (go_at_call 27; refine (refmix_any _ _ _ hu' (u64w_u64 _)).mono ?_; rintro e w' ⟨rfl, rfl⟩)
          go_roundw
          case rel => exact ⟨k' + 1, by omega, by go_num, by rw [E1.out, absorb_snoc], hB'⟩
          case measure => simp [intOf]; omega
        · have E1 := Lib.hid (List.take_of_length_le (by rw [List.length_map, HL.out]; omega) : (l.map u64w).take k' = l.map u64w)
          go_wp2_with (go_at_call 27; refine (refmix_any _ _ _ hu' ⟨by omega, by omega⟩).mono ?_; rintro e w' ⟨rfl, rfl⟩)
          go_ret
          exact ⟨ret_int (by rw [E1.out, sumI, HL.out]), hB'⟩

theorem int_of_u64 {x : Int} (h : U64 x) : u64w (wrap64 x) = x := by
  unfold U64 at h
  simp only [u64w, wrap64, IntKind.wrap_u64]
  omega
set_option maxHeartbeats 1000000 in
theorem refpair_any (a b : Int) (w : World) :
    Calls Try.prog 20 #[.int .u64 a, .int .u64 b] w fun e w' => e = .returned (.int .u64 (pairI a b)) ∧ Below w.heap.size w w' := by
  go_enter Try.func20, Try.ntmps20
  go_wp2_with fail
  refine (refsum_any pairTxt (by decide) _ 2 2 [wrap64 a, wrap64 b] _ (rd_lit _ _ _ rfl rfl) (by omega)).mono ?_
  rintro e w1 ⟨rfl, hb1⟩
  go_wp2
  go_ret
  exact ⟨rfl, by (repeat (first | (with_reducible exact Below.refl _ _) | (with_reducible assumption) | (with_reducible refine b_drew ?_) | (with_reducible refine b_drewN ?_ _) | (with_reducible refine b_alloc ?_ _) | ((with_reducible refine b_set ?_ ?_ _); rotate_left; (focus (first | omega | (simp; done) | (simp; omega) | (simp at *; omega)))) | (with_reducible refine b_call ?_ (by with_reducible assumption))))⟩

theorem sum_words (lab L : List Int) (hL : Bytes L) (hl : L.length ≤ 1000000000000) : sumI lab ((wordsI L).map wrap64 ++ [(L.length : Int)]) = bytesI lab L := by
  have h1 : ((wordsI L).map wrap64 ++ [(L.length : Int)]).map u64w = wordsI L ++ [(L.length : Int)] := by
    rw [List.map_append, List.map_map]
    congr 1
    · conv => rhs; rw [← List.map_id (wordsI L)]
      exact List.map_congr_left fun x hx => int_of_u64 (wordsI_u64 hL x hx)
    · simp only [List.map_cons, List.map_nil, IntKind.wrap_u64]
      congr 1
      omega
  unfold sumI bytesI
  rw [h1, absorb_snoc]
  congr 4
  simp [wordsI_length]

set_option maxHeartbeats 4000000 in
theorem refbytes_any (s : ByteArray) (hs : s.size ≤ 1000000000000) (L : List Int) (hL : Bytes L) (A : Option Addr) (n c : Nat) (w : World) (rd : Rd w w.heap.size 1 A n (L.map (Value.int .u8))) (hn : n ≤ 1000000000000) :
    Calls Try.prog 18 #[.string s, .slice A n c] w fun e w' => e = .returned (.int .u64 (bytesI (txt s) L)) ∧ Below w.heap.size w w' := by
  have hll : L.length = n := by have := rd.1; simpa using this
  have HL := Lib.hid hll
  have HW := Lib.hid (show (wordsI L).length = (n + 7) / 8 from by rw [wordsI_length, hll])
  clear hll
  go_enter Try.func18, Try.ntmps18
  go_wp2_with fail
  refine (refwords_any _ n _ L hL _ rd hn).mono ?_
  rintro e w1 ⟨A1, c1, rfl, hc1, hc2, hown, hb1⟩
  have RW := Lib.hid (rd_own hown)
  have hws := wordsI_u64 hL
  clear hown rd
  have hN : (n + 7) / 8 ≤ 1000000000000 := by omega
  generalize hNe : (n + 7) / 8 = N at *
  have HNE := Lib.hid hNe
  clear hNe
  go_wp2
  go_loopw [6, 7] (fun v i wr => ∃ (k : Nat) (A' : Option Addr) (c' : Nat), k ≤ N ∧ i = .int .i64 k ∧ v = .slice A' k c' ∧ wr.ownsRow w1.heap.size 3 1 (.slice A' k c') k ((((wordsI L).map wrap64).take k).map (Value.int .i64)) ∧ k ≤ c' ∧ c' ≤ maxLen ∧ Below w1.heap.size w1 wr) (fun _ i _ => N - (intOf i).toNat)
  case atStart => exact ⟨0, none, 0, by omega, rfl, rfl, own_nil _ _ _ _, by omega, by simp [maxLen], Below.refl _ _⟩
  case round =>
    obtain ⟨k, A', c', hk, rfl, rfl, hown, hc3, hc4, hB⟩ := hrel
    by_cases hlt : k < N
    · obtain ⟨b, o, hl, rfl, hb, hcell⟩ := (RW.out.below hB (Nat.le_refl _)).openMap hlt
      have E1 := Lib.hid (take_map_succ wrap64 (wordsI L) hl)
      go_wp2_with (at_builtin; refine wpList_app _ rfl (.tmp 16) (.tmp 22) slInts rfl rfl (hown.alloc _) rfl (rd_lit wr _ _ rfl rfl) (by intro u hu; simp at hu; subst hu; rfl) (k + 1) rfl (by unfold maxLen; omega) (by omega) (by have := hB.size; simp; omega) ?_; intro A2 c2 w2 g1 g2 g3 g4 _)
      go_roundw
      case rel => exact ⟨k + 1, A2, c2, by omega, by go_num, rfl, by rw [E1.out, List.map_append]; exact g3, g1, g2, below_app (b_alloc hB _) (hown.alloc _) g4 (Nat.le_refl _) (by have := hB.size; simp; omega)⟩
      case measure => simp [intOf]; omega
    · obtain rfl : N = k := by omega
      have E1 := Lib.hid (List.take_of_length_le (by rw [List.length_map, HW.out]; omega) : ((wordsI L).map wrap64).take N = (wordsI L).map wrap64)
      go_wp2_with (at_builtin; refine wpList_app _ rfl (.tmp 25) (.tmp 28) slInts rfl rfl (hown.alloc _) rfl (rd_lit wr _ _ rfl rfl) (by intro u hu; simp at hu; subst hu; rfl) (N + 1) rfl (by unfold maxLen; omega) (by omega) (by have := hB.size; simp; omega) ?_; intro A2 c2 w2 g1 g2 g3 g4 _)
      have HR := Lib.hid (show Rd w2 w2.heap.size 1 A2 (N + 1) (((wordsI L).map wrap64 ++ [(n : Int)]).map (Value.int .i64)) from by rw [List.map_append, ← E1.out]; exact rd_own g3)
      have hB2 := below_app (b_alloc hB _) (hown.alloc _) g4 (Nat.le_refl _) (by have := hB.size; simp; omega)
      clear g3 g4
      go_wp2_with fail
      refine (refsum_any s hs A2 (N + 1) c2 _ w2 HR.out (by omega)).mono ?_
      rintro e w3 ⟨rfl, hb3⟩
      go_wp2
      go_ret
      exact ⟨ret_int (by rw [← sum_words (txt s) L hL (by rw [HL.out]; exact hn), HL.out]), b_call (b_call hb1 hB2) hb3⟩

set_option maxHeartbeats 400000 in
theorem short_any (s : ByteArray) (m : Int) (k : Nat) (hm : m = k) (hs : s.size ≤ 9223372036854775807) (hk : k ≤ 1000) (w : World) :
    Calls Try.prog 11 #[.string s, .int .i64 m] w fun e w' => ∃ s' : ByteArray, e = .returned (.string s') ∧ txt s' = (txt s).take k ∧ s'.size ≤ k ∧ w = w' := by
  subst hm
  by_cases h : k < s.size
  · have E1 := Lib.hid (show txt (s.extract 0 k) = (txt s).take k from by
      simp [txt, ByteArray.data_extract, List.map_take])
    have E2 := Lib.hid (show (s.extract 0 k).size ≤ k from by simp [ByteArray.size_extract]; omega)
    go_enter Try.func11, Try.ntmps11
    go_wp2
    go_ret
    exact ⟨_, rfl, E1.out, E2.out, rfl⟩
  · have E1 := Lib.hid (List.take_of_length_le (by rw [txt_length]; omega) : (txt s).take k = txt s)
    go_enter Try.func11, Try.ntmps11
    go_wp2
    go_ret
    exact ⟨s, rfl, E1.out.symm, by omega, rfl⟩
end Go.Proofs.Ytaecimjbmdpgcaa
