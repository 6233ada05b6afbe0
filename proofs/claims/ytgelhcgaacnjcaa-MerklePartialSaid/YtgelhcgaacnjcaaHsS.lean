/-
  WHAT IS PROVED HERE: the contract of hash64.Sum, and of the reference's Words. No condition but bounds that every machine's lengths meet.
-/
import Derived.Test.YtgelhcgaacnjcaaHsB
import Derived.Test.YtgelhcgaacnjcaaHlpS
namespace Go.Proofs.Ytgelhcgaacnjcaa
set_option linter.unusedVariables false
open Go.ChangeShapes Go.WideShapes Go.ChangeAt Go.RowKit

abbrev u64w (x : Int) : Int := IntKind.u64.wrap x

theorem u64w_u64 (x : Int) : U64 (u64w x) := by
  unfold u64w U64
  rw [IntKind.wrap_u64]
  omega

def sumI (lab l : List Int) : Int := mixI (absorb (beginI lab l.length) (l.map u64w)) 0

theorem beginI_u64 (l : List Int) (c : Int) : U64 (beginI l c) := mixI_u64 _ _

theorem take_map_succ {α β : Type} (f : α → β) (l : List α) {k : Nat} (h : k < l.length) : (l.map f).take (k + 1) = (l.map f).take k ++ [f l[k]] := by
  rw [List.take_succ_eq_append_getElem (by simpa using h)]
  simp

set_option maxHeartbeats 1000000 in
theorem sum_any (s : ByteArray) (hs : s.size ≤ 9223372036854775000) (A : Option Addr) (n c : Nat) (l : List Int) (w : World) (rd : Rd w w.heap.size 1 A n (l.map (Value.int .i64))) (hn : n ≤ 9223372036854775000) :
    Calls Try.prog 41 #[.string s, .slice A n c] w fun e w' => e = .returned (.int .u64 (sumI (txt s) l)) ∧ Below w.heap.size w w' := by
  have hll : l.length = n := by have := rd.1; simpa using this
  have HL := Lib.hid hll
  have RD := Lib.hid rd
  clear hll rd
  go_enter Try.func41, Try.ntmps41
  go_wp2_with fail
  refine (begin_any s _ hs (by omega) _).mono ?_
  rintro e w1 ⟨rfl, hb1⟩
  go_wp2
  go_loopw [5, 14] (fun st i wr => ∃ k : Nat, k ≤ n ∧ i = .int .i64 k ∧ st = .int .u64 (absorb (beginI (txt s) n) ((l.map u64w).take k)) ∧ Below w.heap.size w wr) (fun _ i _ => n - (intOf i).toNat)
  case atStart => exact ⟨0, by omega, rfl, rfl, hb1⟩
  case round =>
    obtain ⟨k, hk, rfl, rfl, hB⟩ := hrel
    by_cases hlt : k < n
    · obtain ⟨b, o, hl, rfl, hb, hcell⟩ := (RD.out.below hB (Nat.le_refl _)).openMap hlt
      have hu := absorb_u64 (beginI_u64 (txt s) n) ((l.map u64w).take k)
      have E1 := Lib.hid (take_map_succ u64w l hl)
      go_wp2_with (go_at_call 53; refine (mix_any _ _ _ hu (u64w_u64 _)).mono ?_; rintro e w' ⟨rfl, rfl⟩)
      go_roundw
      case rel => exact ⟨k + 1, by omega, by go_num, by rw [E1.out, absorb_snoc], hB⟩
      case measure => simp [intOf]; omega
    · have hu := absorb_u64 (beginI_u64 (txt s) n) ((l.map u64w).take k)
      have E1 := Lib.hid (List.take_of_length_le (by rw [List.length_map, HL.out]; omega) : (l.map u64w).take k = l.map u64w)
      go_wp2_with (go_at_call 53; refine (mix_any _ _ _ hu ⟨by omega, by omega⟩).mono ?_; rintro e w' ⟨rfl, rfl⟩)
      go_ret
      exact ⟨ret_int (by rw [E1.out, sumI, HL.out]), hB⟩

/-! ### The reference -/
theorem slU64s : SlT Try.prog 23 22 1 8 := .mk' (z := .int .u64 0) Try.underlying23 (by kernel_rfl) rfl (by omega)

set_option maxHeartbeats 4000000 in
theorem refwords_any (A : Option Addr) (n c : Nat) (L : List Int) (hL : Bytes L) (w : World) (rd : Rd w w.heap.size 1 A n (L.map (Value.int .u8))) (hn : n ≤ 1000000000000) :
    Calls Try.prog 50 #[.slice A n c] w (RetSl w 22 1 ((n + 7) / 8) ((wordsI L).map (Value.int .u64))) := by
  have hll : L.length = n := by have := rd.1; simpa using this
  have HL := Lib.hid hll
  have RD := Lib.hid rd
  clear hll rd
  go_enter Try.func50, Try.ntmps50
  go_wp2
  go_loopw [3, 4] (fun v i wr => ∃ k A' c', Hid (k % 8 = 0) ∧ k < n + 8 ∧ i = .int .i64 (k : Nat) ∧ v = .slice A' (k / 8) c' ∧ wr.ownsRow w.heap.size 22 1 (.slice A' (k / 8) c') (k / 8) (((wordsI L).take (k / 8)).map (Value.int .u64)) ∧ k / 8 ≤ c' ∧ c' ≤ maxLen ∧ Below w.heap.size w wr) (fun _ i _ => n + 8 - (intOf i).toNat)
  case atStart => exact ⟨0, none, 0, rfl, by omega, rfl, rfl, own_nil _ _ _ _, by omega, by simp [maxLen], Below.refl _ _⟩
  case round =>
    obtain ⟨k, A', c', hk8, hk, rfl, rfl, hown, hc1, hc2, hB⟩ := hrel
    by_cases hlt : k < n
    · have H1 : Hid ((wordsI L).take (k / 8 + 1) = (wordsI L).take (k / 8) ++ [leI ((L.drop k).take 8)]) := by
        have e := hk8.out
        have := wordsI_take_succ L (i := k / 8) (by rw [HL.out]; omega)
        rw [show 8 * (k / 8) = k from by omega] at this
        exact this
      by_cases h8 : k + 8 ≤ n
      · have H8 : k + 8 - k ≤ 8 := by omega
        have HW := Lib.hid (show (L.drop k).take (k + 8 - k) = (L.drop k).take 8 from by rw [Nat.add_sub_cancel_left])
        have hsmall := fun p (hp : p ≤ (k + 8)) (hq : (k + 8) < p + 8) => leI_small ((hL.drop p).take ((k + 8) - p)) (by rw [List.length_take]; omega)
        have HS := Lib.hid hsmall
        clear hsmall
        go_wp2
        go_loop [5, 6] (fun v j => ∃ p : Nat, k ≤ p ∧ p ≤ (k + 8) ∧ j = .int .i64 ((p : Int) - 1) ∧ v = .int .u64 (leI ((L.drop p).take ((k + 8) - p)))) (fun _ j => (intOf j + 1).toNat)
        case atStart => exact ⟨(k + 8), by omega, Nat.le_refl _, by go_num, by rw [Nat.sub_self]; rfl⟩
        case round =>
          obtain ⟨p, hp1, hp2, rfl, rfl⟩ := hrel
          by_cases hpk : k < p
          · obtain ⟨b, o, hl, rfl, hb, hcell⟩ := (RD.out.below hB (Nat.le_refl _)).openMap (k := p - 1) (by omega)
            have hx := hL _ (List.getElem_mem hl)
            have E3 := Lib.hid (drop_take_pred L (p := p) (e := (k + 8)) (by omega) hp2 (by rw [HL.out]; omega))
            obtain ⟨x, hxe⟩ : ∃ x, L[p - 1] = x := ⟨_, rfl⟩
            rw [hxe] at hcell hx
            have HX := Lib.hid hxe
            clear hxe
            have hsm := HS.out p hp2 (by omega)
            go_wp2
            go_round
            case rel => exact ⟨p - 1, by omega, by omega, by go_num, by rw [E3.out, HX.out, leI_cons]⟩
            case measure => simp [intOf]; omega
          · obtain rfl : k = p := by omega
            rw [HW.out]
            clear HS hp1 hp2 hpk
            go_wp2_with (at_builtin; refine wpList_app _ rfl (.tmp 32) (.tmp 34) slU64s rfl rfl (hown.alloc _) rfl (rd_lit wr _ _ rfl rfl) (by intro u hu; simp at hu; subst hu; rfl) (k / 8 + 1) rfl (by unfold maxLen; omega) (by omega) (by have := hB.size; simp; omega) ?_; intro A2 c2 w2 g1 g2 g3 g4 _)
            go_roundw
            case rel => exact ⟨k + 8, A2, c2, by show (k + 8) % 8 = 0; have := hk8.out; omega, by omega, by go_num, by rw [show (k + 8) / 8 = k / 8 + 1 from by omega], by rw [show (k + 8) / 8 = k / 8 + 1 from by omega, H1.out, List.map_append]; exact g3, by omega, g2, below_app (b_alloc hB _) (hown.alloc _) g4 (Nat.le_refl _) (by have := hB.size; simp; omega)⟩
            case measure => simp [intOf]; omega
      · have H8 : n < k + 8 := by omega
        have HW := Lib.hid (show (L.drop k).take (n - k) = (L.drop k).take 8 from by rw [List.take_of_length_le (by rw [List.length_drop, HL.out]; omega), List.take_of_length_le (by rw [List.length_drop, HL.out]; omega)])
        have hsmall := fun p (hp : p ≤ n) (hq : n < p + 8) => leI_small ((hL.drop p).take (n - p)) (by rw [List.length_take]; omega)
        have HS := Lib.hid hsmall
        clear hsmall
        go_wp2
        go_loop [5, 6] (fun v j => ∃ p : Nat, k ≤ p ∧ p ≤ n ∧ j = .int .i64 ((p : Int) - 1) ∧ v = .int .u64 (leI ((L.drop p).take (n - p)))) (fun _ j => (intOf j + 1).toNat)
        case atStart => exact ⟨n, by omega, Nat.le_refl _, by go_num, by rw [Nat.sub_self]; rfl⟩
        case round =>
          obtain ⟨p, hp1, hp2, rfl, rfl⟩ := hrel
          by_cases hpk : k < p
          · obtain ⟨b, o, hl, rfl, hb, hcell⟩ := (RD.out.below hB (Nat.le_refl _)).openMap (k := p - 1) (by omega)
            have hx := hL _ (List.getElem_mem hl)
            have E3 := Lib.hid (drop_take_pred L (p := p) (e := n) (by omega) hp2 (by rw [HL.out]; omega))
            obtain ⟨x, hxe⟩ : ∃ x, L[p - 1] = x := ⟨_, rfl⟩
            rw [hxe] at hcell hx
            have HX := Lib.hid hxe
            clear hxe
            have hsm := HS.out p hp2 (by omega)
            go_wp2
            go_round
            case rel => exact ⟨p - 1, by omega, by omega, by go_num, by rw [E3.out, HX.out, leI_cons]⟩
            case measure => simp [intOf]; omega
          · obtain rfl : k = p := by omega
            rw [HW.out]
            clear HS hp1 hp2 hpk
            go_wp2_with (at_builtin; refine wpList_app _ rfl (.tmp 32) (.tmp 34) slU64s rfl rfl (hown.alloc _) rfl (rd_lit wr _ _ rfl rfl) (by intro u hu; simp at hu; subst hu; rfl) (k / 8 + 1) rfl (by unfold maxLen; omega) (by omega) (by have := hB.size; simp; omega) ?_; intro A2 c2 w2 g1 g2 g3 g4 _)
            go_roundw
            case rel => exact ⟨k + 8, A2, c2, by show (k + 8) % 8 = 0; have := hk8.out; omega, by omega, by go_num, by rw [show (k + 8) / 8 = k / 8 + 1 from by omega], by rw [show (k + 8) / 8 = k / 8 + 1 from by omega, H1.out, List.map_append]; exact g3, by omega, g2, below_app (b_alloc hB _) (hown.alloc _) g4 (Nat.le_refl _) (by have := hB.size; simp; omega)⟩
            case measure => simp [intOf]; omega
    · have E1 := Lib.hid (show k / 8 = (n + 7) / 8 from by have := hk8.out; omega)
      have E2 := Lib.hid (wordsI_take_all L (i := k / 8) (by rw [HL.out]; have := hk8.out; omega))
      go_wp2
      go_ret
      exact ⟨A', c', by rw [← E1.out]; rfl, by rw [← E1.out]; exact hc1, hc2, by rw [← E1.out, ← E2.out]; exact hown, hB⟩

end Go.Proofs.Ytgelhcgaacnjcaa
