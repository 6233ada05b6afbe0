/-
  WHAT IS PROVED HERE: the contracts of package unionfind's contains, find, Union, Same and New: what they return and what they make of the partition that the sets hold. No condition but that the sets lie in memory as stated, with at most 10000 elements.
-/
import Derived.Test.YtjmhibjkbnbefaaMake
import Derived.Test.YtjmhibjkbnbefaaUfQ
import Derived.StillTailTactics
namespace Go.Proofs.Ytjmhibjkbnbefaa
set_option linter.unusedVariables false
open Go.ChangeShapes Go.WideShapes Go.ChangeAt Go.RowKit

def natI (x : Nat) : Value := .int .i64 (x : Int)
/-- The sets at p, with their parents in block g: n elements, the partition f. -/
def Ufs (w : World) (p g n : Nat) (f : Nat → Nat) : Prop :=
  ∃ par : List Nat, par.length = n ∧ Down par ∧ root par = f ∧ Vr w p 49 #[.slice (some ⟨g, 0, none⟩) n n] ∧ Vr w g 3 (par.map natI).toArray
theorem Ufs.part {w : World} {p g n : Nat} {f : Nat → Nat} (h : Ufs w p g n f) : Part f := by
  obtain ⟨par, _, _, rfl, _⟩ := h
  exact part_root par
theorem Ufs.keep {w w' : World} {p g n : Nat} {f : Nat → Nat} (h : Ufs w p g n f) (hp : w'.heap[p]? = w.heap[p]?) (hg : w'.heap[g]? = w.heap[g]?) : Ufs w' p g n f := by
  obtain ⟨par, h1, h2, h3, h4, h5⟩ := h
  exact ⟨par, h1, h2, h3, h4.same hp, h5.same hg⟩
theorem Ufs.lt {w : World} {p g n : Nat} {f : Nat → Nat} (h : Ufs w p g n f) : p < w.heap.size ∧ g < w.heap.size := by
  obtain ⟨par, h1, h2, h3, h4, h5⟩ := h
  exact ⟨h4.lt, h5.lt⟩
theorem Ufs.below {w w' : World} {p g n : Nat} {f : Nat → Nat} (h : Ufs w p g n f) (hb : Below w.heap.size w w') : Ufs w' p g n f := h.keep (hb.block p h.lt.1) (hb.block g h.lt.2)
theorem ufs_ne {w : World} {p g : Nat} {cs cs' : Array Value} (h4 : Vr w p 49 cs) (h5 : Vr w g 3 cs') : p ≠ g := by
  rintro rfl
  unfold Vr at h4 h5
  rw [h4] at h5
  injection h5 with h5
  injection h5 with _ h5
  exact absurd h5 (by decide)
theorem natI_set (l : List Nat) (e v : Nat) : (l.map natI).toArray.setIfInBounds e (natI v) = ((l.set e v).map natI).toArray := by
  rw [List.map_set]
  simp
theorem natI_cell {w : World} {g : Nat} {t : TypeId} {l : List Nat} (h : Vr w g t (l.map natI).toArray) {i : Nat} (hi : i < l.length) : w.cell? ⟨g, i, none⟩ = some (.int .i64 (l.getD i i : Nat)) := by
  rw [h.cell]
  simp [natI, hi, List.getD_eq_getElem?_getD]

theorem contains_any (p g n : Nat) (f : Nat → Nat) (a : Int) (w : World) (hn : n ≤ 10000) (ha : -9223372036854775808 ≤ a ∧ a ≤ 9223372036854775807) (hU : Ufs w p g n f) :
    Calls Try.prog 31 #[.pointer (some ⟨p, 0, none⟩), .int .i64 a] w fun e w' => e = .returned (.bool (inR n a)) ∧ w = w' := by
  obtain ⟨par, _, _, _, hV, _⟩ := hU
  have hc : w.cell? ⟨p, 0, none⟩ = some (.slice (some ⟨g, 0, none⟩) n n) := by rw [hV.cell]; rfl
  clear hV
  by_cases h0 : 0 ≤ a
  · go_enter Try.func31, Try.ntmps31
    go_wp2
    go_ret
    exact ⟨ret_bool (by unfold inR; simp [h0]), rfl⟩
  · have hd : decide (0 ≤ a) = false := by simpa using h0
    go_enter Try.func31, Try.ntmps31
    go_wp2
    go_ret
    exact ⟨ret_bool (by unfold inR; simp; omega), rfl⟩

set_option maxHeartbeats 1000000 in
theorem find_any (p g n : Nat) (f : Nat → Nat) (a : Nat) (w : World) (hn : n ≤ 10000) (ha : a < n) (hU : Ufs w p g n f) :
    Calls Try.prog 29 #[.pointer (some ⟨p, 0, none⟩), .int .i64 (a : Int)] w fun e w' => e = .returned (.int .i64 (f a : Nat)) ∧ Ufs w' p g n f ∧ Only (· = g) w w' := by
  obtain ⟨par, hl, hD, rfl, hVp, hVg⟩ := hU
  have hpg := ufs_ne hVp hVg
  have START := Lib.hid (And.intro hl (And.intro hD (And.intro hVp hVg)))
  clear hl hD hVp hVg
  go_enter Try.func29, Try.ntmps29
  go_wp2
  go_step3
  go_wp2
  go_step3
  go_wp2
  go_loopw [1] (fun e wr => ∃ (i : Nat) (q : List Nat), i < n ∧ e = .int .i64 i ∧ Hid (q.length = n ∧ Down q ∧ root q = root par ∧ root q i = root par a ∧ Vr wr p 49 #[.slice (some ⟨g, 0, none⟩) n n] ∧ Vr wr g 3 (q.map natI).toArray) ∧ Only (· = g) w wr) (fun e _ => (intOf e).toNat)
  case atStart => exact ⟨a, par, ha, rfl, Lib.hid ⟨START.out.1, START.out.2.1, rfl, rfl, START.out.2.2.1, START.out.2.2.2⟩, Only.refl _ _⟩
  case round =>
    obtain ⟨i, q, hi, rfl, H, hO⟩ := hrel
    have hql : q.length = n := H.out.1
    have hc0 : wr.cell? ⟨p, 0, none⟩ = some (.slice (some ⟨g, 0, none⟩) n n) := by rw [H.out.2.2.2.2.1.cell]; rfl
    have hc1 := natI_cell H.out.2.2.2.2.2 (i := i) (by omega)
    have hf1 := H.out.2.2.2.2.2.frozen i
    have hd1 := H.out.2.1 i
    by_cases hlt : q.getD i i < i
    · have hc2 := natI_cell H.out.2.2.2.2.2 (i := q.getD i i) (by omega)
      have HH := Lib.hid (And.intro (root_half H.out.2.1 (e := i) (by omega) hlt) (And.intro (H.out.2.1.set (e := i) (v := q.getD (q.getD i i) (q.getD i i)) (by omega) (by have := H.out.2.1 (q.getD i i); omega)) (root_down hlt)))
      have HS := Lib.hid (natI_set q i (q.getD (q.getD i i) (q.getD i i)))
      obtain ⟨j, hj⟩ : ∃ j, q.getD i i = j := ⟨_, rfl⟩
      rw [hj] at hc1 hc2 hd1 hlt
      have HJ := Lib.hid hj
      clear hj
      obtain ⟨k, hk⟩ : ∃ k, q.getD j j = k := ⟨_, rfl⟩
      rw [hk] at hc2
      have HK := Lib.hid hk
      have HQL := Lib.hid hql
      clear hk hql
      have hne : ((j : Int) == (i : Int)) = false := by simp; omega
      have hjn : j < n := by omega
      go_wp2_with fail
      go_still_tail 13, (by kernel_rfl)
      change wpList _ _ _ _ _ wr.drew
      go_wp2
      go_roundw
      case rel => exact ⟨j, q.set i k, by omega, rfl, Lib.hid (by
        have h1 := HH.out
        have h2 := HS.out
        rw [HJ.out, HK.out] at h1 h2
        refine ⟨by simpa using HQL.out, h1.2.1, by rw [funext h1.1, H.out.2.2.1], by rw [h1.1, ← h1.2.2, H.out.2.2.2.1], H.out.2.2.2.2.1.drew.far hpg _, ?_⟩
        rw [← h2]
        exact H.out.2.2.2.2.2.drew.set _ _), (hO.drew).setCell (p := ⟨g, i, none⟩) (.inl rfl) _⟩
      case measure => simp [intOf]; omega
    · have hst : q.getD i i = i := by omega
      have HE := Lib.hid (show root par a = i from by rw [← H.out.2.2.2.1, root_stop hlt])
      rw [hst] at hc1
      clear hst hlt hd1
      go_wp2
      try rw [Exit.noGoto_ret]
      go_ret
      exact ⟨ret_int (by rw [HE.out]), ⟨q, H.out.1, H.out.2.1, H.out.2.2.1, H.out.2.2.2.2.1, H.out.2.2.2.2.2⟩, hO⟩
end Go.Proofs.Ytjmhibjkbnbefaa
