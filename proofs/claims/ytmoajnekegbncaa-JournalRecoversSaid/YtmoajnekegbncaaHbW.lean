/-
  WHAT IS PROVED HERE: the iterator of package hash64 over the words of a slice of bytes: its contract.
-/
import Derived.Test.YtmoajnekegbncaaHsW
namespace Go.Proofs.Ytmoajnekegbncaa
set_option linter.unusedVariables false
open Go.RowKit Go.Shelf

attribute [local go_sem] Oper.semAt_some

set_option maxRecDepth 100000 in
set_option maxHeartbeats 2000000 in
theorem words_b_in (F : Fence) (n : Nat) (hf : F.fn 40) (hro : F.round = none) (hn : 1 ≤ n) (l Bn n₀ g : Nat) (L : List Int) (hw : Bytes L) (A : Option Addr) (nn c B : Nat) (hs : nn ≤ 9223372036854775000) (hBg : B ≤ g) (hBn : B ≤ n₀) (hB : Bn < n₀) (hg : Bn ≠ g) (J Jx : List Int → World → Prop)
    (hY : ∀ pre x W, J pre W → pre.length < (wordsI L).length → U64 x → YieldAt F (n - 1) Try.prog l #[.int .u64 x] W fun e W' =>
      (e = .returned (.bool true) ∧ J (pre ++ [x]) W' ∧ KpX n₀ g W W') ∨ (e = .returned (.bool false) ∧ Jx (pre ++ [x]) W'))
    (W : World) (rd : Rd W B 1 A nn (L.map (Value.int .u8))) (hc : W.cell? ⟨Bn, 0, none⟩ = some (.slice A nn c)) (h0 : J [] W) :
    CallsIn F n Try.prog 40 #[.func (.yield l) #[] #[], .pointer (some ⟨Bn, 0, none⟩)] W fun e W' => (∃ v, e = .returned v) ∧
      ((∃ ys, ys = wordsI L ∧ J ys W') ∨ (∃ pre, pre <+: wordsI L ∧ Jx pre W')) := by
  refine callsIn_of_wp Try.func40 rfl hf ?_ hro
  simp only [Try.ntmps40, List.size_toArray, List.length_cons, List.length_nil, Nat.reduceAdd, Nat.reduceSub, Array.replicate_succ, Array.replicate_zero, List.push_toArray, List.append_toArray, List.nil_append, List.cons_append]
  have hL : L.length = nn := by have := rd.1; simpa using this
  have RD := Lib.hid rd
  have HL := Lib.hid hL
  clear rd hL
  gi_wp2
  gi_loopw [3] (fun i wr => ∃ f : Nat, Hid (f % 8 = 0) ∧ f < nn + 8 ∧ i = .int .i64 f ∧ J ((wordsI L).take (f / 8)) wr ∧ KpX n₀ g W wr) (fun i _ => nn + 8 - (intOf i).toNat)
  case atStart => exact ⟨0, rfl, by omega, rfl, h0, KpX.refl _ _ _⟩
  case round =>
    obtain ⟨f, hf8, hk, rfl, hJs, hkp⟩ := hrel
    have hcx : wr.cell? ⟨Bn, 0, none⟩ = some (.slice A nn c) := (hkp.cell hB hg).trans hc
    by_cases hlt : f < nn
    · obtain ⟨b, o, _, rfl, hb, _⟩ := RD.out.openMap hlt
      have hcell : ∀ j (h : j < nn), wr.cell? ⟨b, o + j, none⟩ = some (.int .u8 (L[j]'(by rw [HL.out]; exact h))) := fun j hj => by
        obtain ⟨b', o', _, e, _, h⟩ := RD.out.openMap hj
        injection e with e
        injection e with e1 e2
        subst e1 e2
        exact (hkp.cell (Nat.lt_of_lt_of_le hb hBn) (by omega)).trans h
      have HC := Lib.hid hcell
      clear hcell
      have hd : decide ((f : Int) < (nn : Int)) = true := by simp; omega
      have H1 : Hid ((wordsI L).take (f / 8 + 1) = (wordsI L).take (f / 8) ++ [leI ((L.drop f).take 8)]) := by
        have e := hf8.out
        have := wordsI_take_succ L (i := f / 8) (by rw [HL.out]; omega)
        rw [show 8 * (f / 8) = f from by omega] at this
        exact this
      have hlen : ((wordsI L).take (f / 8)).length < (wordsI L).length := by
        rw [List.length_take, wordsI_length, HL.out]
        omega
      obtain ⟨fn, tmps, assign, body, hy, hR⟩ := hY _ (leI ((L.drop f).take 8)) wr hJs hlen (leI_u64 ((hw.drop _).take _) (by rw [List.length_take]; omega))
      have HY := Lib.hid hy
      have HR := Lib.hid hR
      clear hy hR hlen
      gi_wp2
      gi_loop [4, 5] (fun v i => ∃ m : Nat, m ≤ 8 ∧ f + m ≤ nn ∧ i = .int .i64 m ∧ v = .int .u64 (leI ((L.drop f).take m))) (fun _ i => 8 - (intOf i).toNat)
      case atStart => exact ⟨0, by omega, by omega, rfl, rfl⟩
      case round =>
        obtain ⟨m, hm, hms, rfl, rfl⟩ := hrel
        by_cases hin : m < 8 ∧ f + m < nn
        · obtain ⟨hm8, hin⟩ := hin
          have hx := HC.out (f + m) hin
          have hb0 := hw _ (List.getElem_mem (by rw [HL.out]; exact hin : f + m < L.length))
          obtain ⟨x, hxe⟩ : ∃ x, L[f + m]'(by rw [HL.out]; exact hin) = x := ⟨_, rfl⟩
          rw [hxe] at hx hb0
          have HX := Lib.hid hxe
          clear hxe
          gi_wp2
          go_round
          case rel =>
            refine ⟨m + 1, by omega, by omega, by go_num, ?_⟩
            rw [word_step hw hm8 (by rw [HL.out]; exact hin) HX.out.symm]
          case measure => simp [intOf]; omega
        · have E : (L.drop f).take m = (L.drop f).take 8 := by
            by_cases h8 : m = 8
            · rw [h8]
            · rw [List.take_of_length_le (by rw [List.length_drop, HL.out]; omega), List.take_of_length_le (by rw [List.length_drop, HL.out]; omega)]
          rw [E]
          have hy := HY.out
          have d1 : m < 8 → decide ((f : Int) + (m : Int) < (nn : Int)) = false := fun h => by simp; omega
          by_cases hm8 : m < 8
          all_goals
            have d2 := d1
            clear d1 E
            try (have d3 := d2 hm8)
            clear d2
            gi_wp2
            refine HR.out.mono ?_
            rintro e W3 (⟨rfl, hJ3, hk3⟩ | ⟨rfl, hJx3⟩)
            · gi_wp2
              go_roundw
              case rel => exact ⟨f + 8, by have := hf8.out; show (f + 8) % 8 = 0; omega, by omega, by go_num, by rw [show (f + 8) / 8 = f / 8 + 1 from by omega, H1.out]; exact hJ3, kpX_t hkp hk3⟩
              case measure => simp [intOf]; omega
            · gi_wp2
              refine bodyPost_ret (results_none rfl _ _ _) rfl ?_
              exact ⟨⟨_, rfl⟩, .inr ⟨_, ⟨(wordsI L).drop (f / 8 + 1), by rw [← H1.out, List.take_append_drop]⟩, hJx3⟩⟩
    · have E := Lib.hid (wordsI_take_all L (i := f / 8) (by rw [HL.out]; have := hf8.out; omega))
      gi_wp2
      go_end0
      exact ⟨⟨_, rfl⟩, .inl ⟨_, E.out, hJs⟩⟩

theorem words_b_stops (F : Fence) (n : Nat) (hf : F.fn 40) (hro : F.round = none) (hn : 1 ≤ n) (Bn n₀ g : Nat) (L : List Int) (hL : Bytes L) (A : Option Addr) (nn c B : Nat) (hs : nn ≤ 9223372036854775000) (hBg : B ≤ g) (hBn : B ≤ n₀) (hB : Bn < n₀) (hg : Bn ≠ g) (w : World) (hw : n₀ ≤ w.heap.size)
    (rd : Rd w B 1 A nn (L.map (Value.int .u8))) (hc : w.cell? ⟨Bn, 0, none⟩ = some (.slice A nn c)) :
    SeqStopsK F n Try.prog 40 #[.pointer (some ⟨Bn, 0, none⟩)] (fun x : W64 => #[.int .u64 x.1]) (KpX n₀ g) (fun xs => vals xs = wordsI L) (fun pre => vals pre <+: wordsI L) (wordsI L).length w := by
  intro l J Jx W hW hJ hJx hY h0
  refine (words_b_in F n hf hro hn l Bn n₀ g L hL A nn c B hs hBg hBn hB hg (fun pre W => ∃ p, vals p = pre ∧ J p W) (fun pre W => ∃ p, vals p = pre ∧ Jx p W) ?_ W (rd.below hW (Nat.le_trans hBn hw)) ((hW.cell (p := ⟨Bn, 0, none⟩) (Nat.lt_of_lt_of_le hB hw)).trans hc) ⟨[], rfl, h0⟩).mono ?_
  · rintro pre x W1 ⟨p, rfl, hj⟩ hlen hx
    refine (hY p ⟨x, hx⟩ W1 hj (by rw [vals_length] at hlen; exact hlen)).mono ?_
    rintro e W' (⟨he, hj', hk⟩ | ⟨he, hj'⟩)
    · exact .inl ⟨he, ⟨_, vals_snoc p _, hj'⟩, hk⟩
    · exact .inr ⟨he, _, vals_snoc p _, hj'⟩
  · rintro e W' ⟨hv, (⟨ys, rfl, p, hp, hj⟩ | ⟨pre, hpre, p, rfl, hj⟩)⟩
    · exact ⟨hv, .inl ⟨p, hp, hj⟩⟩
    · exact ⟨hv, .inr ⟨p, hpre, hj⟩⟩

set_option maxHeartbeats 1000000 in
theorem words_b_make (F : Fence) (n : Nat) (hf : F.fn 31) (hro : F.round = none) (A : Option Addr) (nn c : Nat) (w : World) :
    CallsIn F n Try.prog 31 #[.slice A nn c] w fun e w' => e = .returned (.func (.func 40) #[] #[.pointer (some ⟨w.heap.size, 0, none⟩)]) ∧ w' = w.alloc (.cells #[.slice A nn c] 27) := by
  refine callsIn_of_wp Try.func31 rfl hf ?_ hro
  simp only [Try.ntmps31, List.size_toArray, List.length_cons, List.length_nil, Nat.reduceAdd, Nat.reduceSub, Array.replicate_succ, Array.replicate_zero, List.push_toArray, List.append_toArray, List.nil_append, List.cons_append]
  gi_wp2
  go_ret
  exact ⟨rfl, rfl⟩

end Go.Proofs.Ytmoajnekegbncaa
