/-
  WHAT IS PROVED HERE: the iterator of package hash64 over the words of a text: its contract, for every loop body that keeps what the iterator reads.
-/
import Derived.RangeFuncNested
import Derived.RangeFuncBound
import Derived.RangeFuncCalls
import Derived.RangeFuncLeaves
import Derived.Shelf.Abstract
import Derived.Shelf.RegionOpen
import Derived.WalkKit
import Derived.OwnWalkIn
import Derived.TacticsInMore
import Derived.LoopNIn
import Derived.LoopIn
import Derived.Test.YtgelhcgaacnjcaaHashA
namespace Go.Proofs.Ytgelhcgaacnjcaa
set_option linter.unusedVariables false
open Go.RowKit Go.Shelf

attribute [local go_sem] Oper.semAt_some

/-- What a round keeps: below n₀ all but block g. -/
def KpX (n₀ g : Nat) (W W' : World) : Prop := ∀ k, k < n₀ → k ≠ g → W'.heap[k]? = W.heap[k]?

theorem KpX.refl (n₀ g : Nat) (W : World) : KpX n₀ g W W := fun _ _ _ => rfl

theorem kpX_t {n₀ g : Nat} {A B C : World} (h : KpX n₀ g A B) (k : KpX n₀ g B C) : KpX n₀ g A C := fun i hi hn => (k i hi hn).trans (h i hi hn)

theorem kpX_b {n₀ g : Nat} {w : World} (hn : n₀ ≤ w.heap.size) (W : World) (l : Nat) (o o' : Obj) (hl : w.heap.size ≤ l) (h : W.heap[l]? = some o) (_ : o.isCells = false) (_ : o.isWalk = false) : KpX n₀ g W (W.putObj l o') :=
  fun i hi _ => World.putObj_heap_other (by omega)

theorem KpX.cell {n₀ g : Nat} {W W' : World} (h : KpX n₀ g W W') {b o : Nat} (hb : b < n₀) (hg : b ≠ g) : W'.cell? ⟨b, o, none⟩ = W.cell? ⟨b, o, none⟩ := World.cell?_of_block (w := W) (h b hb hg)

set_option maxRecDepth 100000 in
set_option maxHeartbeats 2000000 in
theorem words_s_in (F : Fence) (n : Nat) (hf : F.fn 57) (hro : F.round = none) (hn : 1 ≤ n) (l Bn n₀ g : Nat) (s : ByteArray) (hs : s.size ≤ 9223372036854775000) (hB : Bn < n₀) (hg : Bn ≠ g) (J Jx : List Int → World → Prop)
    (hY : ∀ pre x W, J pre W → pre.length < (wordsI (txt s)).length → U64 x → YieldAt F (n - 1) Try.prog l #[.int .u64 x] W fun e W' =>
      (e = .returned (.bool true) ∧ J (pre ++ [x]) W' ∧ KpX n₀ g W W') ∨ (e = .returned (.bool false) ∧ Jx (pre ++ [x]) W'))
    (W : World) (hc : W.cell? ⟨Bn, 0, none⟩ = some (.string s)) (h0 : J [] W) :
    CallsIn F n Try.prog 57 #[.func (.yield l) #[] #[], .pointer (some ⟨Bn, 0, none⟩)] W fun e W' => (∃ v, e = .returned v) ∧
      ((∃ ys, ys = wordsI (txt s) ∧ J ys W') ∨ (∃ pre, pre <+: wordsI (txt s) ∧ Jx pre W')) := by
  refine callsIn_of_wp Try.func57 rfl hf ?_ hro
  simp only [Try.ntmps57, List.size_toArray, List.length_cons, List.length_nil, Nat.reduceAdd, Nat.reduceSub, Array.replicate_succ, Array.replicate_zero, List.push_toArray, List.append_toArray, List.nil_append, List.cons_append]
  gi_wp2
  gi_loopw [3] (fun i wr => ∃ f : Nat, Hid (f % 8 = 0) ∧ f < s.size + 8 ∧ i = .int .i64 f ∧ J ((wordsI (txt s)).take (f / 8)) wr ∧ KpX n₀ g W wr) (fun i _ => s.size + 8 - (intOf i).toNat)
  case atStart => exact ⟨0, rfl, by omega, rfl, h0, KpX.refl _ _ _⟩
  case round =>
    obtain ⟨f, hf8, hk, rfl, hJs, hkp⟩ := hrel
    have hcx : wr.cell? ⟨Bn, 0, none⟩ = some (.string s) := (hkp.cell hB hg).trans hc
    by_cases hlt : f < s.size
    · have hd : decide ((f : Int) < (s.size : Int)) = true := by simp; omega
      have H1 : Hid ((wordsI (txt s)).take (f / 8 + 1) = (wordsI (txt s)).take (f / 8) ++ [leI (((txt s).drop f).take 8)]) := by
        have e := hf8.out
        have := wordsI_take_succ (txt s) (i := f / 8) (by rw [txt_length]; omega)
        rw [show 8 * (f / 8) = f from by omega] at this
        exact this
      have hlen : ((wordsI (txt s)).take (f / 8)).length < (wordsI (txt s)).length := by
        rw [List.length_take, wordsI_length, txt_length]
        omega
      obtain ⟨fn, tmps, assign, body, hy, hR⟩ := hY _ (leI (((txt s).drop f).take 8)) wr hJs hlen (leI_u64 (((txt_bytes s).drop _).take _) (by rw [List.length_take]; omega))
      have HY := Lib.hid hy
      have HR := Lib.hid hR
      clear hy hR hlen
      gi_wp2
      gi_loop [4, 5] (fun v i => ∃ m : Nat, m ≤ 8 ∧ f + m ≤ s.size ∧ i = .int .i64 m ∧ v = .int .u64 (leI (((txt s).drop f).take m))) (fun _ i => 8 - (intOf i).toNat)
      case atStart => exact ⟨0, by omega, by omega, rfl, rfl⟩
      case round =>
        obtain ⟨m, hm, hms, rfl, rfl⟩ := hrel
        by_cases hin : m < 8 ∧ f + m < s.size
        · obtain ⟨hm8, hin⟩ := hin
          have hb := s[f + m].toNat_lt
          gi_wp2
          go_round
          case rel =>
            refine ⟨m + 1, by omega, by omega, by go_num, ?_⟩
            rw [word_step (txt_bytes s) hm8 (by rw [txt_length]; exact hin) (txt_get s hin).symm]
          case measure => simp [intOf]; omega
        · have E : ((txt s).drop f).take m = ((txt s).drop f).take 8 := by
            by_cases h8 : m = 8
            · rw [h8]
            · rw [List.take_of_length_le (by rw [List.length_drop, txt_length]; omega), List.take_of_length_le (by rw [List.length_drop, txt_length]; omega)]
          rw [E]
          have hy := HY.out
          have d1 : m < 8 → decide ((f : Int) + (m : Int) < (s.size : Int)) = false := fun h => by simp; omega
          by_cases hm8 : m < 8
          all_goals
            have d2 := d1
            clear d1 E
            try (have d3 := d2 hm8)
            clear d2
            gi_wp2
            refine HR.out.mono ?_
            rintro e W3 (⟨rfl, hJ3, hk3⟩ | ⟨rfl, hJx3⟩)
            · gi_wp2
              go_roundw
              case rel => exact ⟨f + 8, by have := hf8.out; show (f + 8) % 8 = 0; omega, by omega, by go_num, by rw [show (f + 8) / 8 = f / 8 + 1 from by omega, H1.out]; exact hJ3, kpX_t hkp hk3⟩
              case measure => simp [intOf]; omega
            · gi_wp2
              refine bodyPost_ret (results_none rfl _ _ _) rfl ?_
              exact ⟨⟨_, rfl⟩, .inr ⟨_, ⟨(wordsI (txt s)).drop (f / 8 + 1), by rw [← H1.out, List.take_append_drop]⟩, hJx3⟩⟩
    · have E := Lib.hid (wordsI_take_all (txt s) (i := f / 8) (by rw [txt_length]; have := hf8.out; omega))
      gi_wp2
      go_end0
      exact ⟨⟨_, rfl⟩, .inl ⟨_, E.out, hJs⟩⟩

/-- A word with its bounds. -/
abbrev W64 := { x : Int // U64 x }

def vals (l : List W64) : List Int := l.map (·.1)

theorem vals_snoc (l : List W64) (x : W64) : vals (l ++ [x]) = vals l ++ [x.1] := by simp [vals]

theorem vals_length (l : List W64) : (vals l).length = l.length := by simp [vals]

theorem words_s_stops (F : Fence) (n : Nat) (hf : F.fn 57) (hro : F.round = none) (hn : 1 ≤ n) (Bn n₀ g : Nat) (s : ByteArray) (hs : s.size ≤ 9223372036854775000) (hB : Bn < n₀) (hg : Bn ≠ g) (w : World) (hw : n₀ ≤ w.heap.size)
    (hc : w.cell? ⟨Bn, 0, none⟩ = some (.string s)) :
    SeqStopsK F n Try.prog 57 #[.pointer (some ⟨Bn, 0, none⟩)] (fun x : W64 => #[.int .u64 x.1]) (KpX n₀ g) (fun xs => vals xs = wordsI (txt s)) (fun pre => vals pre <+: wordsI (txt s)) (wordsI (txt s)).length w := by
  intro l J Jx W hW hJ hJx hY h0
  refine (words_s_in F n hf hro hn l Bn n₀ g s hs hB hg (fun pre W => ∃ p, vals p = pre ∧ J p W) (fun pre W => ∃ p, vals p = pre ∧ Jx p W) ?_ W ((hW.cell (p := ⟨Bn, 0, none⟩) (Nat.lt_of_lt_of_le hB hw)).trans hc) ⟨[], rfl, h0⟩).mono ?_
  · rintro pre x W1 ⟨p, rfl, hj⟩ hlen hx
    refine (hY p ⟨x, hx⟩ W1 hj (by rw [vals_length] at hlen; exact hlen)).mono ?_
    rintro e W' (⟨he, hj', hk⟩ | ⟨he, hj'⟩)
    · exact .inl ⟨he, ⟨_, vals_snoc p _, hj'⟩, hk⟩
    · exact .inr ⟨he, _, vals_snoc p _, hj'⟩
  · rintro e W' ⟨hv, (⟨ys, rfl, p, hp, hj⟩ | ⟨pre, hpre, p, rfl, hj⟩)⟩
    · exact ⟨hv, .inl ⟨p, hp, hj⟩⟩
    · exact ⟨hv, .inr ⟨p, hpre, hj⟩⟩

set_option maxHeartbeats 1000000 in
theorem words_s_make (F : Fence) (n : Nat) (hf : F.fn 56) (hro : F.round = none) (s : ByteArray) (w : World) :
    CallsIn F n Try.prog 56 #[.string s] w fun e w' => e = .returned (.func (.func 57) #[] #[.pointer (some ⟨w.heap.size, 0, none⟩)]) ∧ w' = w.alloc (.cells #[.string s] 9) := by
  refine callsIn_of_wp Try.func56 rfl hf ?_ hro
  simp only [Try.ntmps56, List.size_toArray, List.length_cons, List.length_nil, Nat.reduceAdd, Nat.reduceSub, Array.replicate_succ, Array.replicate_zero, List.push_toArray, List.append_toArray, List.nil_append, List.cons_append]
  gi_wp2
  go_ret
  exact ⟨rfl, rfl⟩

end Go.Proofs.Ytgelhcgaacnjcaa
