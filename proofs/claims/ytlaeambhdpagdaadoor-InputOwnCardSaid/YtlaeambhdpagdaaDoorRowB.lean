/-
  WHAT IS PROVED HERE: the contracts of Row and ParseRow of package input and of its reference. No condition but bounds that every machine's lengths meet.
-/
import Derived.Test.YtlaeambhdpagdaaDoorRowA
import Derived.Test.YtlaeambhdpagdaaDoorMake
namespace Go.Proofs.YtlaeambhdpagdaaDoor
set_option linter.unusedVariables false
open Go.ChangeShapes Go.WideShapes Go.ChangeAt Go.RowKit

theorem made_rows (n : Nat) : (madeCells (inp (0, 0, 0)).cells (n * 3)).toList = flat (List.replicate n (0, 0, 0)) := by
  apply List.ext_getElem?
  intro j
  by_cases hj : j < n * 3
  · have hk : j / 3 < (List.replicate n ((0, 0, 0) : Inp)).length := by simp; omega
    obtain ⟨g0, g1, g2⟩ := flat_get hk
    simp only [List.getElem_replicate] at g0 g1 g2
    have hm : j % 3 = 0 ∨ j % 3 = 1 ∨ j % 3 = 2 := by omega
    have hL : (madeCells (inp (0, 0, 0)).cells (n * 3)).toList[j]? = some ((inp (0, 0, 0)).cells[j % 3]!) := by
      simp [madeCells, hj]
      rfl
    rw [hL]
    rcases hm with h | h | h
    · rw [h, show j = j / 3 * 3 from by omega, g0]; rfl
    · rw [h, show j = j / 3 * 3 + 1 from by omega, g1]; rfl
    · rw [h, show j = j / 3 * 3 + 2 from by omega, g2]; rfl
  · rw [List.getElem?_eq_none (by simp [madeCells]; omega), List.getElem?_eq_none (by rw [flat_length]; simp; omega)]

theorem fill_set {α : Type} (l : List α) (z : α) {n k : Nat} (hl : l.length = n) (hk : k < l.length) : (l.take k ++ List.replicate (n - k) z).set k l[k] = l.take (k + 1) ++ List.replicate (n - (k + 1)) z := by
  have h1 : (l.take k).length = k := by rw [List.length_take]; omega
  rw [List.set_append, if_neg (by omega), h1, Nat.sub_self, show n - k = (n - (k + 1)) + 1 from by omega, List.replicate_succ, List.set_cons_zero, List.take_succ_eq_append_getElem hk, List.append_assoc]
  rfl
theorem fill_full {α : Type} (l : List α) (z : α) {n : Nat} (hl : l.length = n) : l.take n ++ List.replicate (n - n) z = l := by
  rw [Nat.sub_self, List.take_of_length_le (by omega)]
  simp

set_option maxHeartbeats 2000000 in
theorem row_any (A : Option Addr) (n c : Nat) (l : List Inp) (w : World) (hV : ∀ x ∈ l, Val x) (rd : Rd w w.heap.size 3 A n (flat l)) (hn : n ≤ 1000000000000) :
    Calls Tryd.prog 25 #[.slice A n c] w (RetSl w 5 1 n ((l.map code).map (Value.int .u8))) := by
  have hll : l.length = n := by have := rd.1; rw [flat_length] at this; omega
  have RD := Lib.hid rd
  have HL := Lib.hid hll
  have HM := Lib.hid (show (l.map code).length = n from by rw [List.length_map, hll])
  have hmk := fun W => run_mk (P := Tryd.prog) (z := .int .u8 0) (size := 1) (bytes := 1) Tryd.underlying37 (by kernel_rfl) n (by omega) (by omega) W
  have O0 := Lib.hid (show (w.alloc (.cells (madeCells #[Value.int .u8 0] n) 5)).ownsRow w.heap.size 5 1 (.slice (some ⟨w.heap.size, 0, none⟩) n n) n ((((l.map code).take 0 ++ List.replicate (n - 0) 0)).map (Value.int .u8)) from by
    have := own_mk w 5 #[Value.int .u8 0] (n := n) (size := 1) (Nat.le_refl _) (by omega)
    rw [made_one, Nat.mul_one] at this
    rw [List.take_zero, List.nil_append, List.map_replicate, Nat.sub_zero]
    exact this)
  clear rd hll
  go_enter Tryd.func25, Tryd.ntmps25
  go_wp2
  go_loopw [11] (fun i wr => ∃ k : Nat, k ≤ n ∧ i = .int .i64 k ∧ wr.ownsRow w.heap.size 5 1 (.slice (some ⟨w.heap.size, 0, none⟩) n n) n ((((l.map code).take k ++ List.replicate (n - k) 0)).map (Value.int .u8)) ∧ Below w.heap.size w wr ∧ w.heap.size < wr.heap.size) (fun i _ => n - (intOf i).toNat)
  case atStart => exact ⟨0, by omega, rfl, O0.out, b_alloc (Below.refl _ _) _, by simp⟩
  case round =>
    obtain ⟨k, hk, rfl, hown, hB, hz⟩ := hrel
    by_cases hlt : k < n
    · obtain ⟨b, o, hl, rfl, hb, hcell0, hcell1, hcell2⟩ := (RD.out.below hB (Nat.le_refl _)).openRow hlt
      have hi := hV _ (List.getElem_mem hl)
      have hk' : k < (l.map code).length := by rw [HM.out]; exact hlt
      have E1 := Lib.hid (fill_set (l.map code) 0 HM.out hk')
      have E2 := Lib.hid (show (l.map code)[k] = code l[k] from by simp)
      obtain ⟨⟨x, y, z⟩, hx⟩ : ∃ x, l[k] = x := ⟨_, rfl⟩
      rw [hx] at hcell0 hcell1 hcell2 hi
      have HX := Lib.hid hx
      clear hx
      have OW := Lib.hid hown
      clear hown
      go_wp2_with fail
      refine name_worldC ?_
      intro X hX
      have hBX : Below w.heap.size w X := by rw [hX]; exact b_alloc hB _
      have OX := Lib.hid (hX ▸ OW.out.alloc _ : X.ownsRow _ _ _ _ _ _)
      have hzX : w.heap.size < X.heap.size := by rw [hX]; simp; omega
      clear hX
      refine (encode3 x y z _ hi).mono ?_
      rintro e w1 ⟨rfl, hb1⟩
      have O1 := Lib.hid (own_below OX.out hb1)
      have hB1 := b_call hBX hb1
      have hz1 : w.heap.size < w1.heap.size := Nat.lt_of_lt_of_le hzX hb1.size
      obtain ⟨g, cur, e1, hg, hVr, hcur, hNc, hcs⟩ := own_open O1.out (by omega)
      injection e1 with e1
      injection e1 with e1
      subst e1
      have hfK := hVr.frozen k
      have hcK : w1.cell? ⟨w.heap.size, k, none⟩ = some (cur[k]'(by rw [hcs]; omega)) := by rw [hVr.cell, Array.getElem?_eq_getElem]
      clear hVr hcur
      go_wp2
      go_roundw
      case rel => exact ⟨k + 1, by omega, by go_num, by rw [← E1.out, E2.out, HX.out, List.map_set]; exact own_set O1.out k _, hB1.setCell (p := ⟨w.heap.size, k, none⟩) (Nat.le_refl _) _, by simpa [World.setCell] using hz1⟩
      case measure => simp [intOf]; omega
    · obtain rfl : n = k := by omega
      have E2 := Lib.hid (fill_full (l.map code) 0 HM.out)
      go_wp2
      go_ret
      exact ⟨some ⟨w.heap.size, 0, none⟩, n, rfl, Nat.le_refl _, by unfold maxLen; omega, by rw [← E2.out]; exact hown, hB⟩

theorem rd_lit2 (w : World) (cs : Array Value) (e : TypeId) {N sz m : Nat} {xs : List Value} (hN : w.heap.size = N) (h : cs.size = m * sz) (hx : cs.toList = xs) : Rd (w.alloc (.cells cs e)) (w.alloc (.cells cs e)).heap.size sz (some ⟨N, 0, none⟩) m xs := by
  subst hN
  exact rd_lit w cs e h hx
/-! ### ParseRow -/
def Good (L : List Int) : Prop := ∀ x ∈ L, x ≤ 35
instance (L : List Int) : Decidable (Good L) := by unfold Good; infer_instance
def parseE (L : List Int) (p : Int) : Int := if p < 1 ∨ 8 < p then 1 else if (L.length : Int) < p then 7 else if p < (L.length : Int) then 8 else if Good L then 0 else 8
def parseL (L : List Int) (p : Int) : List Inp := if parseE L p = 0 then L.map dec else []
/-- A new row and a code come back, and old memory is as it was. -/
def RetRow (w : World) (rows : List Inp) (code : Int) (e : Ending) (w' : World) : Prop :=
  ∃ A c, e = .returned (.tuple #[.slice A rows.length c, .int .i64 code]) ∧ rows.length ≤ c ∧ c ≤ maxLen ∧ w'.ownsRow w.heap.size 23 3 (.slice A rows.length c) rows.length (flat rows) ∧ Below w.heap.size w w'
theorem ret_none {w w' : World} {code : Int} {rows : List Inp} (h : rows = []) (hb : Below w.heap.size w w') : RetRow w rows code (.returned (.tuple #[.slice none 0 0, .int .i64 code])) w' := by
  subst h
  exact ⟨none, 0, rfl, Nat.le_refl _, by unfold maxLen; simp, own_nil _ _ _ _, hb⟩
theorem good_take {L : List Int} {k : Nat} (h : Good (L.take k)) (hk : k < L.length) (hx : L[k] ≤ 35) : Good (L.take (k + 1)) := by
  intro x hxm
  rw [List.take_succ_eq_append_getElem hk] at hxm
  rcases List.mem_append.1 hxm with h1 | h1
  · exact h x h1
  · have : x = L[k] := by simpa using h1
    omega
theorem not_good {L : List Int} {k : Nat} (hk : k < L.length) (hx : ¬ L[k] ≤ 35) : ¬ Good L := fun h => hx (h _ (List.getElem_mem hk))
theorem decI_good {b : Int} (h : b ≤ 35) : decI b = dec b ∧ decE b = 0 := by unfold decI decE; rw [if_pos h, if_pos h]; exact ⟨rfl, rfl⟩
theorem decE_bad {b : Int} (h : ¬ b ≤ 35) : decE b = 8 := by unfold decE; rw [if_neg h]

set_option maxHeartbeats 4000000 in
theorem refparse_any (A : Option Addr) (n c : Nat) (L : List Int) (p : Int) (w : World) (hp : -9223372036854775808 ≤ p ∧ p ≤ 9223372036854775807) (hL : ∀ x ∈ L, 0 ≤ x ∧ x ≤ 255) (rd : Rd w w.heap.size 1 A n (L.map (Value.int .u8))) (hn : n ≤ 1000000000000) :
    Calls Tryd.prog 23 #[.slice A n c, .int .i64 p] w (RetRow w (parseL L p) (parseE L p)) := by
  have hll : L.length = n := by have := rd.1; simpa using this
  by_cases h1 : p < 1
  · have e1 : parseE L p = 1 := by unfold parseE; rw [if_pos (.inl h1)]
    have e2 : parseL L p = [] := by unfold parseL; rw [if_neg (by omega)]
    rw [e1, e2]
    clear e1 e2 rd hll hL
    go_enter Tryd.func23, Tryd.ntmps23
    go_wp2
    exact bodyPost_ret (v := .tuple #[.slice none 0 0, .int .i64 1]) (by simp [results, Tryd.results23, go_sem]) rfl (ret_none rfl (Below.refl _ _))
  by_cases h2 : 8 < p
  · have e1 : parseE L p = 1 := by unfold parseE; rw [if_pos (.inr h2)]
    have e2 : parseL L p = [] := by unfold parseL; rw [if_neg (by omega)]
    rw [e1, e2]
    clear e1 e2 rd hll hL
    go_enter Tryd.func23, Tryd.ntmps23
    go_wp2
    exact bodyPost_ret (v := .tuple #[.slice none 0 0, .int .i64 1]) (by simp [results, Tryd.results23, go_sem]) rfl (ret_none rfl (Below.refl _ _))
  by_cases h3 : (n : Int) < p
  · have e1 : parseE L p = 7 := by unfold parseE; rw [if_neg (by omega), if_pos (by omega)]
    have e2 : parseL L p = [] := by unfold parseL; rw [if_neg (by omega)]
    rw [e1, e2]
    clear e1 e2 rd hll hL
    go_enter Tryd.func23, Tryd.ntmps23
    go_wp2
    exact bodyPost_ret (v := .tuple #[.slice none 0 0, .int .i64 7]) (by simp [results, Tryd.results23, go_sem]) rfl (ret_none rfl (Below.refl _ _))
  by_cases h4 : p < (n : Int)
  · have e1 : parseE L p = 8 := by unfold parseE; rw [if_neg (by omega), if_neg (by omega), if_pos (by omega)]
    have e2 : parseL L p = [] := by unfold parseL; rw [if_neg (by omega)]
    rw [e1, e2]
    clear e1 e2 rd hll hL
    go_enter Tryd.func23, Tryd.ntmps23
    go_wp2
    exact bodyPost_ret (v := .tuple #[.slice none 0 0, .int .i64 8]) (by simp [results, Tryd.results23, go_sem]) rfl (ret_none rfl (Below.refl _ _))
  · obtain rfl : p = (n : Int) := by omega
    have e1 : parseE L n = if Good L then 0 else 8 := by unfold parseE; rw [if_neg (by omega), if_neg (by omega), if_neg (by omega)]
    have EG := Lib.hid (show Good L → RetRow w (L.map dec) 0 = RetRow w (parseL L n) (parseE L n) from fun h => by
      rw [if_pos h] at e1
      unfold parseL
      rw [e1, if_pos rfl])
    have EB := Lib.hid (show ¬ Good L → parseL L n = [] ∧ parseE L n = 8 from fun h => by
      rw [if_neg h] at e1
      unfold parseL
      rw [e1, if_neg (by omega)]
      exact ⟨rfl, rfl⟩)
    have RD := Lib.hid rd
    have HL := Lib.hid hll
    clear rd hll e1
    generalize parseE L n = PE at *
    generalize parseL L n = PL at *
    go_enter Tryd.func23, Tryd.ntmps23
    go_wp2
    go_loopw [6, 7] (fun v i wr => ∃ (k : Nat) (A' : Option Addr) (c' : Nat), k ≤ n ∧ i = .int .i64 k ∧ v = .slice A' k c' ∧ wr.ownsRow w.heap.size 23 3 (.slice A' k c') k (flat ((L.map dec).take k)) ∧ Hid (Good (L.take k)) ∧ k ≤ c' ∧ c' ≤ maxLen ∧ Below w.heap.size w wr) (fun _ i _ => n - (intOf i).toNat)
    case atStart => exact ⟨0, none, 0, by omega, rfl, rfl, own_nil _ _ _ _, Lib.hid (by intro x hx; simp at hx), by omega, by simp [maxLen], Below.refl _ _⟩
    case round =>
      obtain ⟨k, A', c', hk, rfl, rfl, hown, hG, hc3, hc4, hB⟩ := hrel
      by_cases hlt : k < n
      · obtain ⟨b, o, hl, rfl, hb, hcell⟩ := (RD.out.below hB (Nat.le_refl _)).openMap hlt
        have hx := hL _ (List.getElem_mem hl)
        have E1 := Lib.hid (take_map_one dec L hl)
        have OW := Lib.hid hown
        clear hown
        by_cases h35 : L[k] ≤ 35
        · have G2 := Lib.hid (good_take hG.out hl h35)
          obtain ⟨x, hx'⟩ : ∃ x, L[k] = x := ⟨_, rfl⟩
          rw [hx'] at hcell hx h35
          have HX := Lib.hid hx'
          clear hx'
          go_wp2_with fail
          refine (refdec_yes x _ hx.1 h35).mono ?_
          rintro e w1 ⟨rfl, hb1⟩
          have O1 := Lib.hid (own_below OW.out hb1)
          have hB1 := b_call hB hb1
          have hz1 := hB1.size
          go_wp2_with (at_builtin; refine wpList_app _ rfl (.tmp 41) (.tmp 43) slRow rfl rfl ((O1.out.alloc _).alloc _) rfl (rd_lit2 _ _ _ (by simp) rfl rfl) (by rw [← flat_one]; exact flat_cell _) (k + 1) rfl (by unfold maxLen; omega) (by omega) (by simp; omega) ?_; intro A2 c2 w2 g1 g2 g3 g4 _)
          go_roundw
          case rel => exact ⟨k + 1, A2, c2, by omega, by go_num, rfl, by rw [E1.out, HX.out, flat_append, flat_one]; exact g3, G2, g1, g2, below_app (b_alloc (b_alloc hB1 _) _) ((O1.out.alloc _).alloc _) g4 (Nat.le_refl _) (by simp; omega)⟩
          case measure => simp [intOf]; omega
        · obtain ⟨x, hx'⟩ : ∃ x, L[k] = x := ⟨_, rfl⟩
          have hE := EB.out (not_good hl h35)
          rw [hx'] at hcell hx h35
          clear hx' EG EB
          obtain ⟨rfl, rfl⟩ := hE
          go_wp2_with fail
          refine (refdec_no x _ (by omega) (by omega)).mono ?_
          rintro e w1 ⟨rfl, hb1⟩
          have hB1 := b_call hB hb1
          go_wp2
          exact bodyPost_ret (v := .tuple #[.slice none 0 0, .int .i64 8]) (by simp [results, Tryd.results23, go_sem]) rfl (ret_none rfl (by (repeat (first | (with_reducible exact Below.refl _ _) | (with_reducible assumption) | (with_reducible refine b_drew ?_) | (with_reducible refine b_drewN ?_ _) | (with_reducible refine b_alloc ?_ _) | ((with_reducible refine b_set ?_ ?_ _); rotate_left; (focus (first | omega | (simp; done) | (simp; omega) | (simp at *; omega)))) | (with_reducible refine b_call ?_ (by with_reducible assumption))))))
      · obtain rfl : n = k := by omega
        have E2 := Lib.hid (show (L.map dec).take n = L.map dec from by rw [List.take_of_length_le (by rw [List.length_map, HL.out]; omega)])
        have hG2 := hG.out
        rw [List.take_of_length_le (by rw [HL.out]; omega)] at hG2
        have HF := Lib.hid (EG.out hG2)
        have HN := Lib.hid (show (L.map dec).length = n from by rw [List.length_map, HL.out])
        go_wp2
        rw [← HF.out]
        exact bodyPost_ret (v := .tuple #[.slice A' n c', .int .i64 0]) (by simp [results, Tryd.results23, go_sem]) rfl ⟨A', c', by rw [HN.out], by rw [HN.out]; exact hc3, hc4, by rw [HN.out, ← E2.out]; exact hown, hB⟩
end Go.Proofs.YtlaeambhdpagdaaDoor
