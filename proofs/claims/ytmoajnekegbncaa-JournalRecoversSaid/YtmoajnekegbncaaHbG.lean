/-
  WHAT IS PROVED HERE: two byte sequences that differ within one group of eight have different hashes: a fact on numbers alone. Conditions: both are bytes, of one length.
-/
import Derived.Test.YtmoajnekegbncaaHbR
namespace Go.Proofs.Ytmoajnekegbncaa
set_option linter.unusedVariables false

theorem group_get (x : List Int) (G j : Nat) (hj : j < 8) : ((x.drop (8 * G)).take 8)[j]? = x[8 * G + j]? := by
  rw [List.getElem?_take, if_pos hj, List.getElem?_drop]
theorem bytes_group {lab x y : List Int} (hx : Bytes x) (hy : Bytes y) (hl : x.length = y.length) (G : Nat) (hG : ∀ i, i / 8 ≠ G → x[i]? = y[i]?) : (bytesI lab x == bytesI lab y) = decide (x = y) := by
  rw [Bool.eq_iff_iff, beq_iff_eq, decide_eq_true_iff]
  refine ⟨fun h => ?_, fun h => by rw [h]⟩
  unfold bytesI at h
  rw [← hl] at h
  have h1 := mixI_left (absorb_u64 (beginI_u64 _ _) _) (absorb_u64 (beginI_u64 _ _) _) (mixI_left (mixI_u64 _ _) (mixI_u64 _ _) h)
  have hgrp : ∀ i, i ≠ G → (x.drop (8 * i)).take 8 = (y.drop (8 * i)).take 8 := fun i hi => List.ext_getElem? fun j => by
    by_cases hj : j < 8
    · rw [group_get x i j hj, group_get y i j hj]
      exact hG _ (by omega)
    · rw [List.getElem?_take, List.getElem?_take, if_neg hj, if_neg hj]
  have hword : ∀ i, i ≠ G → (wordsI x)[i]? = (wordsI y)[i]? := fun i hi => by
    unfold wordsI
    rw [← hl, List.getElem?_map, List.getElem?_map]
    rcases h : (List.range ((x.length + 7) / 8))[i]? with _ | v
    · rfl
    · have hv : i = v := by
        obtain ⟨h1, h2⟩ := List.getElem?_eq_some_iff.1 h
        simpa using h2
      subst hv
      simp only [Option.map_some]
      rw [hgrp i hi]
  have hwl : (wordsI x).length = (wordsI y).length := by rw [wordsI_length, wordsI_length, hl]
  have fin : (x.drop (8 * G)).take 8 = (y.drop (8 * G)).take 8 → x = y := fun hg => List.ext_getElem? fun i => by
    by_cases hi : i / 8 = G
    · have h2 := congrArg (fun (l : List Int) => l[i - 8 * G]?) hg
      rw [group_get x G _ (by omega), group_get y G _ (by omega), show 8 * G + (i - 8 * G) = i from by omega] at h2
      exact h2
    · exact hG i hi
  by_cases hGm : G < (wordsI x).length
  · have hGm' : G < (wordsI y).length := by omega
    have t1 : (wordsI x).take G = (wordsI y).take G := List.ext_getElem? fun i => by
      rw [List.getElem?_take, List.getElem?_take]
      split
      · exact hword i (by omega)
      · rfl
    have t2 : (wordsI x).drop (G + 1) = (wordsI y).drop (G + 1) := List.ext_getElem? fun i => by
      rw [List.getElem?_drop, List.getElem?_drop]
      exact hword _ (by omega)
    have ex : wordsI x = (wordsI x).take G ++ (wordsI x)[G] :: (wordsI x).drop (G + 1) := by
      rw [← List.drop_eq_getElem_cons hGm, List.take_append_drop]
    have ey : wordsI y = (wordsI x).take G ++ (wordsI y)[G] :: (wordsI x).drop (G + 1) := by
      rw [t1, t2, ← List.drop_eq_getElem_cons hGm', List.take_append_drop]
    rw [ex, ey] at h1
    have h2 := absorb_one (beginI_u64 _ _) _ _ (wordsI_u64 hx _ (List.getElem_mem hGm)) (wordsI_u64 hy _ (List.getElem_mem hGm')) h1
    have h3 : leI ((x.drop (8 * G)).take 8) = leI ((y.drop (8 * G)).take 8) := by
      simpa [wordsI] using h2
    exact fin (leI_inj ((hx.drop _).take _) ((hy.drop _).take _) (by simp [hl]) h3)
  · refine fin ?_
    have hm : x.length ≤ 8 * G := by
      rw [wordsI_length] at hGm
      omega
    rw [List.drop_eq_nil_of_le hm, List.drop_eq_nil_of_le (by omega)]
end Go.Proofs.Ytmoajnekegbncaa
