/-
  WHAT IS PROVED HERE: the contract of the hash's reference. No condition but bounds that every machine's lengths meet.
-/
import Derived.Test.YtgelhcgaacnjcaaHsS
namespace Go.Proofs.Ytgelhcgaacnjcaa
set_option linter.unusedVariables false
open Go.ChangeShapes Go.WideShapes Go.ChangeAt Go.RowKit

theorem rd_strbytes {W : World} {g B : Nat} {s : ByteArray} {cap : Nat} {e : TypeId} {fr : Nat × Nat} (h : W.heap[g]? = some (.cells (bytesRow s cap) e fr)) (hB : g < B) : Rd W B 1 (some ⟨g, 0, none⟩) s.size ((txt s).map (Value.int .u8)) := by
  refine ⟨by simp [txt_length], fun _ => ⟨g, 0, rfl, hB, fun j u hu => ?_⟩⟩
  obtain ⟨hj, hu⟩ := List.getElem?_eq_some_iff.1 hu
  have hj' : j < s.data.size := by
    rw [List.length_map, txt_length] at hj
    exact hj
  rw [Nat.zero_add, World.cell?]
  simp only [h]
  rw [← hu]
  simp only [Option.isSome_none, Bool.false_eq_true, if_false]
  rw [bytesRow_at s cap j hj']
  simp [txt]

set_option maxHeartbeats 4000000 in
theorem refsum_any (s : ByteArray) (hs : s.size ≤ 1000000000000) (A : Option Addr) (n c : Nat) (l : List Int) (w : World) (rd : Rd w w.heap.size 1 A n (l.map (Value.int .i64))) (hn : n ≤ 9223372036854775000) :
    Calls Try.prog 39 #[.string s, .slice A n c] w fun e w' => e = .returned (.int .u64 (sumI (txt s) l)) ∧ Below w.heap.size w w' := by
  have hll : l.length = n := by have := rd.1; simpa using this
  have HL := Lib.hid hll
  have RD := Lib.hid rd
  clear hll rd
  have hcv := fun W => run_bytes_of_string (P := Try.prog) W 9 84 5 s Try.underlying9 Try.underlying84 Try.underlying5
  go_enter Try.func39, Try.ntmps39
  go_wp2_with fail
  refine (refwords_any _ s.size _ (txt s) (txt_bytes s) _ (rd_strbytes (by exact World.alloc_heap_new w _) (by simp)) hs).mono ?_
  rintro e w1 ⟨A1, c1, rfl, hc1, hc2, hown, hb1⟩
  have hB1 : Below w.heap.size w w1 := by (repeat (first | (with_reducible exact Below.refl _ _) | (with_reducible assumption) | (with_reducible refine b_drew ?_) | (with_reducible refine b_drewN ?_ _) | (with_reducible refine b_alloc ?_ _) | ((with_reducible refine b_set ?_ ?_ _); rotate_left; (focus (first | omega | (simp; done) | (simp; omega) | (simp at *; omega)))) | (with_reducible refine b_call ?_ (by with_reducible assumption))))
  have RW := Lib.hid (rd_own hown)
  have HW := Lib.hid (show (wordsI (txt s)).length = (s.size + 7) / 8 from by rw [wordsI_length, txt_length])
  have hws := wordsI_u64 (txt_bytes s)
  clear hb1 hown hcv
  have hN : (s.size + 7) / 8 ≤ 1000000000000 := by omega
  generalize (s.size + 7) / 8 = N at *
  go_wp2
  go_loopw [5, 7] (fun st i wr => ∃ k : Nat, k ≤ N ∧ i = .int .i64 k ∧ st = .int .u64 (absorb 0 ((wordsI (txt s)).take k)) ∧ Below w1.heap.size w1 wr) (fun _ i _ => N - (intOf i).toNat)
  case atStart => exact ⟨0, by omega, rfl, rfl, Below.refl _ _⟩
  case round =>
    obtain ⟨k, hk, rfl, rfl, hB⟩ := hrel
    have hu := absorb_u64 (show U64 0 from ⟨by omega, by omega⟩) ((wordsI (txt s)).take k)
    by_cases hlt : k < N
    · obtain ⟨b, o, hl, rfl, hb, hcell⟩ := (RW.out.below hB (Nat.le_refl _)).openMap hlt
      have hx := hws _ (List.getElem_mem hl)
      have E1 := Lib.hid (List.take_succ_eq_append_getElem hl)
      go_wp2_with (go_at_call 51; refine (refmix_any _ _ _ hu hx).mono ?_; rintro e w' ⟨rfl, rfl⟩)
      go_roundw
      case rel => exact ⟨k + 1, by omega, by go_num, by rw [E1.out, absorb_snoc], hB⟩
      case measure => simp [intOf]; omega
    · have E1 := Lib.hid (List.take_of_length_le (by rw [HW.out]; omega) : (wordsI (txt s)).take k = wordsI (txt s))
      rw [E1.out]
      rw [E1.out] at hu
      clear hws E1
      have h1 : U64 (s.size : Int) := ⟨by omega, by omega⟩
      have h2 : U64 (n : Int) := ⟨by omega, by omega⟩
      have hB2 : Below w.heap.size w wr := b_call hB1 hB
      clear hB
      go_wp2_with fail
      refine (refmix_any _ _ _ hu h1).mono ?_
      rintro e w_ ⟨rfl, rfl⟩
      go_wp2_with fail
      refine (refmix_any _ _ _ (mixI_u64 _ _) h2).mono ?_
      rintro e w_ ⟨rfl, rfl⟩
      go_wp2
      go_loopw [5, 8] (fun st i wr' => ∃ k : Nat, k ≤ n ∧ i = .int .i64 k ∧ st = .int .u64 (absorb (beginI (txt s) n) ((l.map u64w).take k)) ∧ Below w.heap.size w wr') (fun _ i _ => n - (intOf i).toNat)
      case atStart => exact ⟨0, by omega, rfl, by rw [beginI, txt_length]; rfl, hB2⟩
      case round =>
        obtain ⟨k', hk', rfl, rfl, hB'⟩ := hrel
        have hu' := absorb_u64 (beginI_u64 (txt s) n) ((l.map u64w).take k')
        by_cases hlt' : k' < n
        · obtain ⟨b, o, hl, rfl, hb, hcell⟩ := (RD.out.below hB' (Nat.le_refl _)).openMap hlt'
          have E1 := Lib.hid (take_map_succ u64w l hl)
          go_wp2_with (go_at_call 51; refine (refmix_any _ _ _ hu' (u64w_u64 _)).mono ?_; rintro e w' ⟨rfl, rfl⟩)
          go_roundw
          case rel => exact ⟨k' + 1, by omega, by go_num, by rw [E1.out, absorb_snoc], hB'⟩
          case measure => simp [intOf]; omega
        · have E1 := Lib.hid (List.take_of_length_le (by rw [List.length_map, HL.out]; omega) : (l.map u64w).take k' = l.map u64w)
          go_wp2_with (go_at_call 51; refine (refmix_any _ _ _ hu' ⟨by omega, by omega⟩).mono ?_; rintro e w' ⟨rfl, rfl⟩)
          go_ret
          exact ⟨ret_int (by rw [E1.out, sumI, HL.out]), hB'⟩

theorem int_of_u64 {x : Int} (h : U64 x) : u64w (wrap64 x) = x := by
  unfold U64 at h
  simp only [u64w, wrap64, IntKind.wrap_u64]
  omega

theorem absorb_one {s : Int} (hs : U64 s) (p q : List Int) {x y : Int} (hx : U64 x) (hy : U64 y) (h : absorb s (p ++ x :: q) = absorb s (p ++ y :: q)) : x = y := by
  rw [absorb_append, absorb_append] at h
  have h1 : mixI (absorb s p) x = mixI (absorb s p) y := absorb_inj (mixI_u64 _ _) (mixI_u64 _ _) h
  exact mixI_right hx hy h1

theorem sumI_one {lab p q : List Int} {x y : Int} (h : sumI lab (p ++ x :: q) = sumI lab (p ++ y :: q)) : u64w x = u64w y := by
  unfold sumI at h
  have h1 := mixI_left (absorb_u64 (beginI_u64 _ _) _) (absorb_u64 (beginI_u64 _ _) _) h
  simp only [List.map_append, List.map_cons, List.length_append, List.length_cons] at h1
  exact absorb_one (beginI_u64 _ _) _ _ (u64w_u64 _) (u64w_u64 _) h1

def I64 (x : Int) : Prop := -9223372036854775808 ≤ x ∧ x ≤ 9223372036854775807

theorem u64w_inj {x y : Int} (hx : I64 x) (hy : I64 y) (h : u64w x = u64w y) : x = y := by
  unfold I64 at hx hy
  simp only [IntKind.wrap_u64] at h
  omega

theorem wrap64_i64 (x : Int) : I64 (wrap64 x) := by
  simp only [wrap64, I64]
  omega

theorem wrap64_inj {x y : Int} (hx : U64 x) (hy : U64 y) (h : wrap64 x = wrap64 y) : x = y := by
  rw [← int_of_u64 hx, ← int_of_u64 hy, h]

theorem sum_set {lab l : List Int} {k : Nat} {v : Int} (hk : k < l.length) (hl : I64 l[k]) (hv : I64 v) : (sumI lab l == sumI lab (l.set k v)) = (l[k] == v) := by
  have h1 : l = l.take k ++ l[k] :: l.drop (k + 1) := by
    rw [← List.drop_eq_getElem_cons hk, List.take_append_drop]
  have h2 : l.set k v = l.take k ++ v :: l.drop (k + 1) := by
    rw [List.set_eq_take_append_cons_drop, if_pos hk]
  rw [Bool.eq_iff_iff, beq_iff_eq, beq_iff_eq]
  refine ⟨fun h => ?_, fun h => ?_⟩
  · rw [h2] at h
    have h3 : sumI lab (l.take k ++ l[k] :: l.drop (k + 1)) = sumI lab (l.take k ++ v :: l.drop (k + 1)) := by rw [← h1]; exact h
    exact u64w_inj hl hv (sumI_one h3)
  · rw [← h, List.set_getElem_self]

end Go.Proofs.Ytgelhcgaacnjcaa
