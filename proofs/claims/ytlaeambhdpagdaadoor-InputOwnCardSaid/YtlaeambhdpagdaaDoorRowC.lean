/-
  WHAT IS PROVED HERE: the contract of ParseRow of package input. No condition but bounds that every machine's lengths meet, and that the table of package input is laid.
-/
import Derived.Test.YtlaeambhdpagdaaDoorRowB
import Derived.Test.YtlaeambhdpagdaaDoorInputT
namespace Go.Proofs.YtlaeambhdpagdaaDoor
set_option linter.unusedVariables false
open Go.ChangeShapes Go.WideShapes Go.ChangeAt Go.RowKit

theorem flat_set (L : List Inp) (k : Nat) (x : Inp) : (((flat L).set (k * 3) (.int .i64 x.1)).set (k * 3 + 1) (.int .i64 x.2.1)).set (k * 3 + 2) (.int .i64 x.2.2) = flat (L.set k x) := by
  induction L generalizing k with
  | nil => simp [flat]
  | cons y L ih =>
    have hf : ∀ (z : Inp) (M : List Inp), flat (z :: M) = .int .i64 z.1 :: .int .i64 z.2.1 :: .int .i64 z.2.2 :: flat M := by
      intro z M
      rw [flat, List.flatMap_cons, ← flat]
      rfl
    rcases k with _ | k
    · simp [hf]
    · rw [hf, List.set_cons_succ, hf, ← ih k, show (k + 1) * 3 = k * 3 + 3 from by omega, show k * 3 + 3 + 1 = (k * 3 + 1) + 3 from by omega, show k * 3 + 3 + 2 = (k * 3 + 2) + 3 from by omega]
      simp

set_option maxHeartbeats 4000000 in
theorem parse_any (A : Option Addr) (n c : Nat) (L : List Int) (p : Int) (w : World) (hp : -9223372036854775808 ≤ p ∧ p ≤ 9223372036854775807) (hL : ∀ x ∈ L, 0 ≤ x ∧ x ≤ 255) (rd : Rd w w.heap.size 1 A n (L.map (Value.int .u8))) (hn : n ≤ 1000000000000) (hT : Tab w) :
    Calls Tryd.prog 22 #[.slice A n c, .int .i64 p] w (RetRow w (parseL L p) (parseE L p)) := by
  have hll : L.length = n := by have := rd.1; simpa using this
  by_cases h1 : p < 1 ∨ 8 < p
  · have e1 : parseE L p = 1 := by unfold parseE; rw [if_pos h1]
    have e2 : parseL L p = [] := by unfold parseL; rw [if_neg (by omega)]
    rw [e1, e2]
    clear e1 e2 rd hll hL hT
    go_enter Tryd.func22, Tryd.ntmps22
    go_wp2_with (go_at_call 27; refine (within_no _ _ _ _ (by omega)).mono ?_; rintro e w_ ⟨rfl, rfl⟩)
    exact bodyPost_ret (v := .tuple #[.slice none 0 0, .int .i64 1]) (by simp [results, Tryd.results22, go_sem]) rfl (ret_none rfl (Below.refl _ _))
  have h1a : 1 ≤ p := by omega
  have h1b : p ≤ 8 := by omega
  clear h1
  by_cases h3 : (n : Int) < p
  · have e1 : parseE L p = 7 := by unfold parseE; rw [if_neg (by omega), if_pos (by omega)]
    have e2 : parseL L p = [] := by unfold parseL; rw [if_neg (by omega)]
    rw [e1, e2]
    clear e1 e2 rd hll hL hT
    go_enter Tryd.func22, Tryd.ntmps22
    go_wp2_with (go_at_call 27; refine (within_yes _ _ _ _ (by omega) (by omega)).mono ?_; rintro e w_ ⟨rfl, rfl⟩)
    exact bodyPost_ret (v := .tuple #[.slice none 0 0, .int .i64 7]) (by simp [results, Tryd.results22, go_sem]) rfl (ret_none rfl (Below.refl _ _))
  by_cases h4 : p < (n : Int)
  · have e1 : parseE L p = 8 := by unfold parseE; rw [if_neg (by omega), if_neg (by omega), if_pos (by omega)]
    have e2 : parseL L p = [] := by unfold parseL; rw [if_neg (by omega)]
    rw [e1, e2]
    clear e1 e2 rd hll hL hT
    go_enter Tryd.func22, Tryd.ntmps22
    go_wp2_with (go_at_call 27; refine (within_yes _ _ _ _ (by omega) (by omega)).mono ?_; rintro e w_ ⟨rfl, rfl⟩)
    exact bodyPost_ret (v := .tuple #[.slice none 0 0, .int .i64 8]) (by simp [results, Tryd.results22, go_sem]) rfl (ret_none rfl (Below.refl _ _))
  · obtain rfl : p = (n : Int) := by omega
    have e1 : parseE L n = if Good L then 0 else 8 := by unfold parseE; rw [if_neg (by omega), if_neg (by omega), if_neg (by omega)]
    have EG := Lib.hid (show Good L → RetRow w (L.map dec) 0 = RetRow w (parseL L n) (parseE L n) from fun h => by
      rw [if_pos h] at e1
      unfold parseL
      rw [e1, if_pos rfl])
    have EB := Lib.hid (show ¬ Good L → parseL L n = [] ∧ parseE L n = 8 from fun h => by
      rw [if_neg h] at e1
      unfold parseL
      rw [e1, if_neg (by omega)]
      exact ⟨rfl, rfl⟩)
    have RD := Lib.hid rd
    have HL := Lib.hid hll
    have HM := Lib.hid (show (L.map dec).length = n from by rw [List.length_map, hll])
    have TT := Lib.hid hT
    clear rd hll e1 h3 h4 hT
    generalize parseE L n = PE at *
    generalize parseL L n = PL at *
    have hmk := fun W => run_mk (P := Tryd.prog) (z := inp (0, 0, 0)) (size := 3) (bytes := 24) Tryd.underlying40 (by kernel_rfl) n (by omega) (by omega) W
    have O0 := Lib.hid (show (w.alloc (.cells (madeCells (inp (0, 0, 0)).cells (n * 3)) 23)).ownsRow w.heap.size 23 3 (.slice (some ⟨w.heap.size, 0, none⟩) n n) n (flat ((L.map dec).take 0 ++ List.replicate (n - 0) (0, 0, 0))) from by
      have := own_mk w 23 (inp (0, 0, 0)).cells (n := n) (size := 3) (Nat.le_refl _) (by omega)
      rw [made_rows] at this
      rw [List.take_zero, List.nil_append, Nat.sub_zero]
      exact this)
    go_enter Tryd.func22, Tryd.ntmps22
    go_wp2_with (go_at_call 27; refine (within_yes _ _ _ _ (by omega) (by omega)).mono ?_; rintro e w_ ⟨rfl, rfl⟩)
    go_loopw [29] (fun i wr => ∃ k : Nat, k ≤ n ∧ i = .int .i64 k ∧ wr.ownsRow w.heap.size 23 3 (.slice (some ⟨w.heap.size, 0, none⟩) n n) n (flat ((L.map dec).take k ++ List.replicate (n - k) (0, 0, 0))) ∧ Hid (Good (L.take k)) ∧ Below w.heap.size w wr ∧ w.heap.size < wr.heap.size) (fun i _ => n - (intOf i).toNat)
    case atStart => exact ⟨0, by omega, rfl, O0.out, Lib.hid (by intro x hx; simp at hx), b_alloc (Below.refl _ _) _, by simp⟩
    case round =>
      obtain ⟨k, hk, rfl, hown, hG, hB, hz⟩ := hrel
      by_cases hlt : k < n
      · obtain ⟨b, o, hl, rfl, hb, hcell⟩ := (RD.out.below hB (Nat.le_refl _)).openMap hlt
        have hx := hL _ (List.getElem_mem hl)
        have hk' : k < (L.map dec).length := by rw [HM.out]; exact hlt
        have E1 := Lib.hid (fill_set (L.map dec) (0, 0, 0) HM.out hk')
        have E2 := Lib.hid (show (L.map dec)[k] = dec L[k] from by simp)
        have OW := Lib.hid hown
        clear hown
        by_cases h35 : L[k] ≤ 35
        · have G2 := Lib.hid (good_take hG.out hl h35)
          obtain ⟨x, hx'⟩ : ∃ x, L[k] = x := ⟨_, rfl⟩
          rw [hx'] at hcell hx h35
          have HX := Lib.hid hx'
          clear hx'
          go_wp2_with fail
          refine name_worldC ?_
          intro X hX
          have hBX : Below w.heap.size w X := by rw [hX]; (repeat (first | (with_reducible exact Below.refl _ _) | (with_reducible assumption) | (with_reducible refine b_drew ?_) | (with_reducible refine b_drewN ?_ _) | (with_reducible refine b_alloc ?_ _) | ((with_reducible refine b_set ?_ ?_ _); rotate_left; (focus (first | omega | (simp; done) | (simp; omega) | (simp at *; omega)))) | (with_reducible refine b_call ?_ (by with_reducible assumption))))
          have OX := Lib.hid (hX ▸ OW.out : X.ownsRow _ _ _ _ _ _)
          have hzX : w.heap.size < X.heap.size := by rw [hX]; exact hz
          clear hX
          refine (decode_yes' x _ hx.1 h35 (TT.out.below hBX)).mono ?_
          rintro e w1 ⟨rfl, hb1⟩
          have O1 := Lib.hid (own_below OX.out hb1)
          have hB1 := b_call hBX hb1
          have hz1 : w.heap.size < w1.heap.size := Nat.lt_of_lt_of_le hzX hb1.size
          obtain ⟨g, cur, e1, hg, hVr, hcur, hNc, hcs⟩ := own_open O1.out (by omega)
          injection e1 with e1
          injection e1 with e1
          subst e1
          have hf0 := hVr.frozen (k * 3)
          have hf1 := hVr.frozen (k * 3 + 1)
          have hf2 := hVr.frozen (k * 3 + 2)
          have hc0 : w1.cell? ⟨w.heap.size, k * 3, none⟩ = some (cur[k * 3]'(by rw [hcs]; omega)) := by rw [hVr.cell, Array.getElem?_eq_getElem]
          have hc1 : w1.cell? ⟨w.heap.size, k * 3 + 1, none⟩ = some (cur[k * 3 + 1]'(by rw [hcs]; omega)) := by rw [hVr.cell, Array.getElem?_eq_getElem]
          have hc2 : w1.cell? ⟨w.heap.size, k * 3 + 2, none⟩ = some (cur[k * 3 + 2]'(by rw [hcs]; omega)) := by rw [hVr.cell, Array.getElem?_eq_getElem]
          clear hVr hcur
          go_wp2
          go_roundw
          case rel => exact ⟨k + 1, by omega, by go_num, by rw [← E1.out, E2.out, HX.out, ← flat_set]; exact (own_set (own_set (own_set O1.out _ _) _ _) _ _).alloc _, G2, b_alloc (((hB1.setCell (p := ⟨w.heap.size, k * 3, none⟩) (Nat.le_refl _) _).setCell (p := ⟨w.heap.size, k * 3 + 1, none⟩) (Nat.le_refl _) _).setCell (p := ⟨w.heap.size, k * 3 + 2, none⟩) (Nat.le_refl _) _) _, by simp [World.setCell]; omega⟩
          case measure => simp [intOf]; omega
        · obtain ⟨x, hx'⟩ : ∃ x, L[k] = x := ⟨_, rfl⟩
          have hE := EB.out (not_good hl h35)
          rw [hx'] at hcell hx h35
          clear hx' EG EB E1 E2
          obtain ⟨rfl, rfl⟩ := hE
          go_wp2_with fail
          refine (decode_no x _ (by omega) (by omega)).mono ?_
          rintro e w1 ⟨rfl, hb1⟩
          have hB1 := b_call hB hb1
          go_wp2
          exact bodyPost_ret (v := .tuple #[.slice none 0 0, .int .i64 8]) (by simp [results, Tryd.results22, go_sem]) rfl (ret_none rfl (by (repeat (first | (with_reducible exact Below.refl _ _) | (with_reducible assumption) | (with_reducible refine b_drew ?_) | (with_reducible refine b_drewN ?_ _) | (with_reducible refine b_alloc ?_ _) | ((with_reducible refine b_set ?_ ?_ _); rotate_left; (focus (first | omega | (simp; done) | (simp; omega) | (simp at *; omega)))) | (with_reducible refine b_call ?_ (by with_reducible assumption))))))
      · obtain rfl : n = k := by omega
        have E2 := Lib.hid (fill_full (L.map dec) (0, 0, 0) HM.out)
        have hG2 := hG.out
        rw [List.take_of_length_le (by rw [HL.out]; omega)] at hG2
        have HF := Lib.hid (EG.out hG2)
        go_wp2
        rw [← HF.out]
        exact bodyPost_ret (v := .tuple #[.slice (some ⟨w.heap.size, 0, none⟩) n n, .int .i64 0]) (by simp [results, Tryd.results22, go_sem]) rfl ⟨some ⟨w.heap.size, 0, none⟩, n, by rw [HM.out], by rw [HM.out]; exact Nat.le_refl _, by unfold maxLen; omega, by rw [HM.out, ← E2.out]; exact hown, hB⟩
end Go.Proofs.YtlaeambhdpagdaaDoor
