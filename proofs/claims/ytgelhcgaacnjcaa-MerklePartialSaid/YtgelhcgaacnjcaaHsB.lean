/-
  WHAT IS PROVED HERE: the contract of hash64.begin. No condition but bounds that every machine's lengths meet.
-/
import Derived.Test.YtgelhcgaacnjcaaHsW
namespace Go.Proofs.Ytgelhcgaacnjcaa
set_option linter.unusedVariables false
open Go.RowKit Go.Shelf

attribute [local go_sem] Oper.semAt_some

def beginI (l : List Int) (cnt : Int) : Int := mixI (mixI (absorb 0 (wordsI l)) l.length) cnt

set_option maxRecDepth 100000 in
set_option maxHeartbeats 2000000 in
theorem begin_in (s : ByteArray) (cnt : Int) (hs : s.size ≤ 9223372036854775000) (hc : 0 ≤ cnt ∧ cnt ≤ 9223372036854775807) (w : World) :
    CallsIn Fence.wide 3 Try.prog 52 #[.string s, .int .i64 cnt] w fun e W' => e = .returned (.int .u64 (beginI (txt s) cnt)) ∧ Below w.heap.size w W' := by
  refine callsIn_of_wp_marks Try.func52 rfl trivial ?_ rfl
  simp only [Try.ntmps52, List.size_toArray, List.length_cons, List.length_nil, Nat.reduceAdd, Nat.reduceSub, Array.replicate_succ, Array.replicate_zero, List.push_toArray, List.append_toArray, List.nil_append, List.cons_append]
  gi_wp2_with (refine ⟨trivial, ?_⟩; gi_at_call 56; refine (words_s_make Fence.wide _ trivial rfl s _).mono ?_; rintro e w' ⟨rfl, rfl⟩)
  have hs0 := (Vr.new w 22 #[.int .u64 0]).alloc (.cells #[.string s] 9)
  have hb0 := Vr.new (w.alloc (.cells #[.int .u64 0] 22)) 9 #[.string s]
  rw [World.size_alloc] at hb0
  have hB0 : Below w.heap.size w ((w.alloc (.cells #[.int .u64 0] 22)).alloc (.cells #[.string s] 9)) := ((Below.refl _ w).alloc (Nat.le_refl _) _).alloc (by simp) _
  refine wpIn_rangeFunc_ownF rfl (by omega) (gf := 57) (lb := #[.pointer (some ⟨w.heap.size + 1, 0, none⟩)]) rfl trivial (enters_of Try.func57 (by kernel_rfl) rfl)
    (words_s_stops Fence.wide _ trivial rfl (by omega) (w.heap.size + 1) (w.heap.size + 2) w.heap.size s hs (by omega) (by omega) _ (by simp) (hb0.cell 0)) kpX_t (kpX_b (by simp)) (Below.refl _ _) (fun _ => rfl)
    (fun (pre : List W64) W => (W.cell? ⟨w.heap.size, 0, none⟩ = some (.int .u64 (absorb 0 (vals pre))) ∧ W.frozen? ⟨w.heap.size, 0, none⟩ = false) ∧ Below w.heap.size w W)
    (fun _ _ _ => False)
    (OwnFrom.and (Own.from (fun s A B row hs hg hr => ⟨cell_kept hs.1 hg hr, (frozen_kept hs.1 hg hr).trans hs.2⟩) _) (ownFrom_below (Nat.le_refl _) (by simp; omega)))
    (fun _ _ _ _ _ hs _ _ => hs)
    ⟨⟨hs0.cell 0, hs0.frozen 0⟩, hB0⟩
    (fun x => { tmps := #[.string s, .int .i64 cnt, undef, undef, .int .u64 0, .pointer (some ⟨w.heap.size, 0, none⟩), .int .u64 x.1, .string s, .func (.func 57) #[] #[.pointer (some ⟨w.heap.size + 1, 0, none⟩)], .int .u64 x.1, undef, undef, undef, undef, undef, undef, undef, undef, undef, undef, undef], defers := [] }) ?assign ?body ?done ?stop
  case assign =>
    intro l x W K hK
    gi_wp2
    exact hK
  case body =>
    rintro l pre x W ⟨⟨hcell, hfr⟩, hB⟩ _
    have hu := absorb_u64 (show U64 0 from ⟨by omega, by omega⟩) (vals pre)
    gi_wp2_with (refine ⟨trivial, ?_⟩; gi_at_call 53; refine (CallsIn.inRound l (callsIn_wide.2 (mix_any _ _ _ hu x.2))).mono ?_; rintro e w' ⟨rfl, rfl⟩)
    exact ⟨KeepsOthers.setCell _ _ _, fun k _ hn => Below.heap_setCell _ _ _ _ hn, ⟨by rw [vals_snoc, absorb_snoc]; exact World.cell?_setCell_same' _ _ _ (by rw [hcell]; rfl), by rw [World.frozen?_setCell]; exact hfr⟩, hB.setCell (p := ⟨w.heap.size, 0, none⟩) (Nat.le_refl _) _⟩
  case done =>
    rintro D ys W hD hys ⟨⟨hcell, _⟩, hB⟩ hK
    rw [hys] at hcell
    have hu := absorb_u64 (show U64 0 from ⟨by omega, by omega⟩) (wordsI (txt s))
    have hu1 : U64 (s.size : Int) := ⟨by omega, by omega⟩
    have hu2 : U64 cnt := ⟨hc.1, by omega⟩
    have hu3 := mixI_u64 (absorb 0 (wordsI (txt s))) s.size
    clear hys
    gi_wp2_with fail
    refine ⟨trivial, (callsIn_wide.2 (mix_any _ _ _ hu hu1)).mono ?_⟩
    rintro e w' ⟨rfl, rfl⟩
    gi_wp2_with fail
    refine ⟨trivial, (callsIn_wide.2 (mix_any _ _ _ hu3 hu2)).mono ?_⟩
    rintro e w' ⟨rfl, rfl⟩
    gi_wp2
    refine ⟨by simp, .inl ⟨_, _, rfl, run_takeDeferred hK, ?_⟩⟩
    exact ⟨_, results_tmp rfl _ _ _, by unfold beginI; rw [txt_length]; rfl, hB.trans (belowK_b (w := w) (Nat.le_refl _) W D _ _ (by simp at hD; omega) hK rfl rfl)⟩
  case stop =>
    rintro D c pre W _ _ h _
    exact h.elim

theorem begin_any (s : ByteArray) (cnt : Int) (hs : s.size ≤ 9223372036854775000) (hc : 0 ≤ cnt ∧ cnt ≤ 9223372036854775807) (w : World) :
    Calls Try.prog 52 #[.string s, .int .i64 cnt] w fun e W' => e = .returned (.int .u64 (beginI (txt s) cnt)) ∧ Below w.heap.size w W' := callsIn_wide.1 (begin_in s cnt hs hc w)

end Go.Proofs.Ytgelhcgaacnjcaa
