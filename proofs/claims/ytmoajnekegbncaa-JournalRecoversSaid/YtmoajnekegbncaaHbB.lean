/-
  WHAT IS PROVED HERE: the contract of hash64.Bytes. No condition but bounds that every machine's lengths meet.
-/
import Derived.Test.YtmoajnekegbncaaHsB
import Derived.Test.YtmoajnekegbncaaHbW
namespace Go.Proofs.Ytmoajnekegbncaa
set_option linter.unusedVariables false
open Go.RowKit Go.Shelf

attribute [local go_sem] Oper.semAt_some

/-- what Bytes hashes: the label, then the words, then the length -/
def bytesI (lab L : List Int) : Int := mixI (mixI (absorb (beginI lab (((L.length + 7) / 8 : Nat) + 1)) (wordsI L)) L.length) 0

set_option maxRecDepth 100000 in
set_option maxHeartbeats 2000000 in
theorem bytes_in (s : ByteArray) (hs : s.size ≤ 9223372036854775000) (L : List Int) (hL : Bytes L) (A : Option Addr) (nn c : Nat) (hn : nn ≤ 140737488355328) (w : World) (rd : Rd w w.heap.size 1 A nn (L.map (Value.int .u8))) :
    CallsIn Fence.wide 3 Try.prog 21 #[.string s, .slice A nn c] w fun e W' => e = .returned (.int .u64 (bytesI (txt s) L)) ∧ Below w.heap.size w W' := by
  have hlen : L.length = nn := by have := rd.1; simpa using this
  have HL := Lib.hid hlen
  have RD := Lib.hid rd
  clear hlen rd
  refine callsIn_of_wp_marks Try.func21 rfl trivial ?_ rfl
  simp only [Try.ntmps21, List.size_toArray, List.length_cons, List.length_nil, Nat.reduceAdd, Nat.reduceSub, Array.replicate_succ, Array.replicate_zero, List.push_toArray, List.append_toArray, List.nil_append, List.cons_append]
  by_cases hr : nn % 8 = 0
  · have q : ((nn : Int) % 8 != 0) = false := by
      rw [bne_eq_false_iff_eq]
      omega
    have HR := Lib.hid hr
    clear hr
    gi_wp2_with fail
    refine ⟨trivial, (callsIn_wide.2 (begin_any s _ hs (by omega) _)).mono ?_⟩
    rintro e w1 ⟨rfl, hb1⟩
    gi_wp2_with (refine ⟨trivial, ?_⟩; gi_at_call 31; refine (words_b_make Fence.wide _ trivial rfl A nn c _).mono ?_; rintro e w' ⟨rfl, rfl⟩)
    have hz1 := hb1.size
    have hs0 := (Vr.new w1 42 #[.int .u64 (beginI (txt s) ((nn : Int) / 8 + 1))]).alloc (.cells #[.slice A nn c] 27)
    have hb0 := Vr.new (w1.alloc (.cells #[.int .u64 (beginI (txt s) ((nn : Int) / 8 + 1))] 42)) 27 #[.slice A nn c]
    rw [World.size_alloc] at hb0
    have hB0 : Below w1.heap.size w1 ((w1.alloc (.cells #[.int .u64 (beginI (txt s) ((nn : Int) / 8 + 1))] 42)).alloc (.cells #[.slice A nn c] 27)) := ((Below.refl _ w1).alloc (Nat.le_refl _) _).alloc (by simp) _
    refine wpIn_rangeFunc_ownF rfl (by omega) (gf := 40) (lb := #[.pointer (some ⟨w1.heap.size + 1, 0, none⟩)]) rfl trivial (enters_of Try.func40 (by kernel_rfl) rfl)
      (words_b_stops Fence.wide _ trivial rfl (by omega) (w1.heap.size + 1) (w1.heap.size + 2) w1.heap.size L hL A nn c w.heap.size (by omega) hz1 (by omega) (by omega) (by omega) _ (by simp) ((RD.out.below hb1 (Nat.le_refl _)).below hB0 hz1) (hb0.cell 0)) kpX_t (kpX_b (by simp)) (Below.refl _ _) (fun _ => rfl)
      (fun (pre : List W64) W => (W.cell? ⟨w1.heap.size, 0, none⟩ = some (.int .u64 (absorb (beginI (txt s) ((nn : Int) / 8 + 1)) (vals pre))) ∧ W.frozen? ⟨w1.heap.size, 0, none⟩ = false) ∧ Below w1.heap.size w1 W)
      (fun _ _ _ => False)
      (OwnFrom.and (Own.from (fun s A B row hs hg hr => ⟨cell_kept hs.1 hg hr, (frozen_kept hs.1 hg hr).trans hs.2⟩) _) (ownFrom_below (Nat.le_refl _) (by simp; omega)))
      (fun _ _ _ _ _ hs _ _ => hs)
      ⟨⟨hs0.cell 0, hs0.frozen 0⟩, hB0⟩ ?a1 ?assign ?body ?done ?stop
    case assign =>
      intro l x W K hK
      gi_wp2
      exact hK
    case body =>
      rintro l pre x W ⟨⟨hcell, hfr⟩, hB⟩ _
      have hu := absorb_u64 (mixI_u64 _ _ : U64 (beginI (txt s) ((nn : Int) / 8 + 1))) (vals pre)
      gi_wp2_with (refine ⟨trivial, ?_⟩; gi_at_call 32; refine (CallsIn.inRound l (callsIn_wide.2 (mix_any _ _ _ hu x.2))).mono ?_; rintro e w' ⟨rfl, rfl⟩)
      exact ⟨KeepsOthers.setCell _ _ _, fun k _ hn => Below.heap_setCell _ _ _ _ hn, ⟨by rw [vals_snoc, absorb_snoc]; exact World.cell?_setCell_same' _ _ _ (by rw [hcell]; rfl), by rw [World.frozen?_setCell]; exact hfr⟩, hB.setCell (p := ⟨w1.heap.size, 0, none⟩) (Nat.le_refl _) _⟩
    case done =>
      rintro D ys W hD hys ⟨⟨hcell, _⟩, hB⟩ hK
      rw [hys] at hcell
      have hu := absorb_u64 (mixI_u64 _ _ : U64 (beginI (txt s) ((nn : Int) / 8 + 1))) (wordsI L)
      have hu1 : U64 (nn : Int) := ⟨by omega, by omega⟩
      have hu3 := mixI_u64 (absorb (beginI (txt s) ((nn : Int) / 8 + 1)) (wordsI L)) nn
      clear hys
      gi_wp2_with fail
      refine ⟨trivial, (callsIn_wide.2 (mix_any _ _ _ hu hu1)).mono ?_⟩
      rintro e w' ⟨rfl, rfl⟩
      gi_wp2_with fail
      refine ⟨trivial, (callsIn_wide.2 (mix_any _ _ _ hu3 ⟨by omega, by omega⟩)).mono ?_⟩
      rintro e w' ⟨rfl, rfl⟩
      gi_wp2
      refine ⟨by simp, .inl ⟨_, _, rfl, run_takeDeferred hK, ?_⟩⟩
      exact ⟨_, results_tmp rfl _ _ _, by rw [bytesI, HL.out, show (((nn + 7) / 8 : Nat) : Int) + 1 = ((nn : Int) / 8 + 1) from by have := HR.out; omega]; rfl, b_call hb1 (hB.trans (belowK_b (w := w1) (Nat.le_refl _) W D _ _ (by simp at hD; omega) hK rfl rfl))⟩
    case stop =>
      rintro D c pre W _ _ h _
      exact h.elim
  · have q : ((nn : Int) % 8 != 0) = true := by
      rw [bne_iff_ne]
      omega
    have HR := Lib.hid hr
    clear hr
    gi_wp2_with fail
    refine ⟨trivial, (callsIn_wide.2 (begin_any s _ hs (by omega) _)).mono ?_⟩
    rintro e w1 ⟨rfl, hb1⟩
    gi_wp2_with (refine ⟨trivial, ?_⟩; gi_at_call 31; refine (words_b_make Fence.wide _ trivial rfl A nn c _).mono ?_; rintro e w' ⟨rfl, rfl⟩)
    have hz1 := hb1.size
    have hs0 := (Vr.new w1 42 #[.int .u64 (beginI (txt s) ((nn : Int) / 8 + 1 + 1))]).alloc (.cells #[.slice A nn c] 27)
    have hb0 := Vr.new (w1.alloc (.cells #[.int .u64 (beginI (txt s) ((nn : Int) / 8 + 1 + 1))] 42)) 27 #[.slice A nn c]
    rw [World.size_alloc] at hb0
    have hB0 : Below w1.heap.size w1 ((w1.alloc (.cells #[.int .u64 (beginI (txt s) ((nn : Int) / 8 + 1 + 1))] 42)).alloc (.cells #[.slice A nn c] 27)) := ((Below.refl _ w1).alloc (Nat.le_refl _) _).alloc (by simp) _
    refine wpIn_rangeFunc_ownF rfl (by omega) (gf := 40) (lb := #[.pointer (some ⟨w1.heap.size + 1, 0, none⟩)]) rfl trivial (enters_of Try.func40 (by kernel_rfl) rfl)
      (words_b_stops Fence.wide _ trivial rfl (by omega) (w1.heap.size + 1) (w1.heap.size + 2) w1.heap.size L hL A nn c w.heap.size (by omega) hz1 (by omega) (by omega) (by omega) _ (by simp) ((RD.out.below hb1 (Nat.le_refl _)).below hB0 hz1) (hb0.cell 0)) kpX_t (kpX_b (by simp)) (Below.refl _ _) (fun _ => rfl)
      (fun (pre : List W64) W => (W.cell? ⟨w1.heap.size, 0, none⟩ = some (.int .u64 (absorb (beginI (txt s) ((nn : Int) / 8 + 1 + 1)) (vals pre))) ∧ W.frozen? ⟨w1.heap.size, 0, none⟩ = false) ∧ Below w1.heap.size w1 W)
      (fun _ _ _ => False)
      (OwnFrom.and (Own.from (fun s A B row hs hg hr => ⟨cell_kept hs.1 hg hr, (frozen_kept hs.1 hg hr).trans hs.2⟩) _) (ownFrom_below (Nat.le_refl _) (by simp; omega)))
      (fun _ _ _ _ _ hs _ _ => hs)
      ⟨⟨hs0.cell 0, hs0.frozen 0⟩, hB0⟩ ?a2 ?assign2 ?body2 ?done2 ?stop2
    case assign2 =>
      intro l x W K hK
      gi_wp2
      exact hK
    case body2 =>
      rintro l pre x W ⟨⟨hcell, hfr⟩, hB⟩ _
      have hu := absorb_u64 (mixI_u64 _ _ : U64 (beginI (txt s) ((nn : Int) / 8 + 1 + 1))) (vals pre)
      gi_wp2_with (refine ⟨trivial, ?_⟩; gi_at_call 32; refine (CallsIn.inRound l (callsIn_wide.2 (mix_any _ _ _ hu x.2))).mono ?_; rintro e w' ⟨rfl, rfl⟩)
      exact ⟨KeepsOthers.setCell _ _ _, fun k _ hn => Below.heap_setCell _ _ _ _ hn, ⟨by rw [vals_snoc, absorb_snoc]; exact World.cell?_setCell_same' _ _ _ (by rw [hcell]; rfl), by rw [World.frozen?_setCell]; exact hfr⟩, hB.setCell (p := ⟨w1.heap.size, 0, none⟩) (Nat.le_refl _) _⟩
    case done2 =>
      rintro D ys W hD hys ⟨⟨hcell, _⟩, hB⟩ hK
      rw [hys] at hcell
      have hu := absorb_u64 (mixI_u64 _ _ : U64 (beginI (txt s) ((nn : Int) / 8 + 1 + 1))) (wordsI L)
      have hu1 : U64 (nn : Int) := ⟨by omega, by omega⟩
      have hu3 := mixI_u64 (absorb (beginI (txt s) ((nn : Int) / 8 + 1 + 1)) (wordsI L)) nn
      clear hys
      gi_wp2_with fail
      refine ⟨trivial, (callsIn_wide.2 (mix_any _ _ _ hu hu1)).mono ?_⟩
      rintro e w' ⟨rfl, rfl⟩
      gi_wp2_with fail
      refine ⟨trivial, (callsIn_wide.2 (mix_any _ _ _ hu3 ⟨by omega, by omega⟩)).mono ?_⟩
      rintro e w' ⟨rfl, rfl⟩
      gi_wp2
      refine ⟨by simp, .inl ⟨_, _, rfl, run_takeDeferred hK, ?_⟩⟩
      exact ⟨_, results_tmp rfl _ _ _, by rw [bytesI, HL.out, show (((nn + 7) / 8 : Nat) : Int) + 1 = ((nn : Int) / 8 + 1 + 1) from by have := HR.out; omega]; rfl, b_call hb1 (hB.trans (belowK_b (w := w1) (Nat.le_refl _) W D _ _ (by simp at hD; omega) hK rfl rfl))⟩
    case stop2 =>
      rintro D c pre W _ _ h _
      exact h.elim

theorem bytes_any (s : ByteArray) (hs : s.size ≤ 9223372036854775000) (L : List Int) (hL : Bytes L) (A : Option Addr) (nn c : Nat) (hn : nn ≤ 140737488355328) (w : World) (rd : Rd w w.heap.size 1 A nn (L.map (Value.int .u8))) :
    Calls Try.prog 21 #[.string s, .slice A nn c] w fun e W' => e = .returned (.int .u64 (bytesI (txt s) L)) ∧ Below w.heap.size w W' := callsIn_wide.1 (bytes_in s hs L hL A nn c hn w rd)

end Go.Proofs.Ytmoajnekegbncaa
