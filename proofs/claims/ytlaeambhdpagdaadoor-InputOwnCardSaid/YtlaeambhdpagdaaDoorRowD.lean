/-
  WHAT IS PROVED HERE: the walk of the law InputRows: it returns true at every input, and leaves old memory as it was. Conditions: the arguments' lengths are a machine's, and the table of package input is laid.
-/
import Derived.Test.YtlaeambhdpagdaaDoorRowC
import Derived.Test.YtlaeambhdpagdaaDoorConv
import Derived.Deep.RegionWith
namespace Go.Proofs.YtlaeambhdpagdaaDoor
set_option linter.unusedVariables false
open Go.ChangeShapes Go.WideShapes Go.ChangeAt Go.RowKit

theorem inps_val (l : List Int) (k : Nat) : ∀ x ∈ (l.map inpOf).take k, Val x := by
  intro x hx
  obtain ⟨y, _, rfl⟩ := List.mem_map.1 (List.mem_of_mem_take hx)
  exact inpOf_val y
theorem take_len {α : Type} (l : List α) {n k : Nat} (h : l.length = n) : (l.take k).length = min n k := by rw [List.length_take, h, Nat.min_comm]

set_option maxHeartbeats 4000000 in
theorem rows_walk (A0 : Option Addr) (n0 c0 : Nat) (l0 : List Int) (p : Int) (A2 : Option Addr) (n2 c2 : Nat) (l2 : List Int) (w : World)
    (nc0 : n0 ≤ c0) (cm0 : c0 ≤ maxLen) (ln0 : l0.length = n0) (rd0 : Rd w w.heap.size 1 A0 n0 (l0.map (Value.int .u8))) (wf0 : ∀ x ∈ l0, (Lit.int .u8 x).wf = true)
    (hp : -9223372036854775808 ≤ p ∧ p ≤ 9223372036854775807)
    (nc2 : n2 ≤ c2) (cm2 : c2 ≤ maxLen) (ln2 : l2.length = n2) (rd2 : Rd w w.heap.size 1 A2 n2 (l2.map (Value.int .i64))) (wf2 : ∀ x ∈ l2, (Lit.int .i64 x).wf = true) (hT : Tab w) :
    Calls Tryd.prog 7 #[.slice A0 n0 c0, .int .i64 p, .slice A2 n2 c2] w fun e w' => e = .returned (.bool true) ∧ Below w.heap.size w w' := by
  have R0 := Lib.hid rd0
  have R2 := Lib.hid rd2
  have TT := Lib.hid hT
  have HN := Lib.hid (And.intro nc0 (And.intro cm0 (And.intro nc2 cm2)))
  have hL8 := fun x hx => bounds_u8 (wf0 x hx)
  have hL64 := fun x hx => bounds_i64 (wf2 x hx)
  have H8 := Lib.hid hL8
  have H64 := Lib.hid hL64
  clear rd0 rd2 hT nc0 cm0 nc2 cm2 hL8 hL64 wf0 wf2
  have hn2 : n2 ≤ 9223372036854775807 := by have := HN.out; unfold maxLen at this; omega
  have hn0 : min n0 10 ≤ 10 := Nat.min_le_right _ _
  have hn8 : min n2 8 ≤ 8 := Nat.min_le_right _ _
  have LL := Lib.hid (take_len l0 ln0 (k := 10))
  have HL := Lib.hid (show ∀ x ∈ l0.take 10, 0 ≤ x ∧ x ≤ 255 from fun x hx => H8.out x (List.mem_of_mem_take hx))
  have hpa := around_bd p 10 (by omega)
  have PR := Lib.hid (fun (v : Int) => show (parseL (l0.take 10) v).length ≤ 10 from by
    unfold parseL
    split
    · rw [List.length_map, LL.out]; omega
    · simp)
  clear ln0 ln2
  go_enter Tryd.func7, Tryd.ntmps7
  go_wp2_with fail
  refine (few_any A0 n0 c0 l0 10 10 _ rfl R0.out HN.out.1 HN.out.2.1 (by omega)).mono ?_
  rintro e w1 ⟨A1, c1, rfl, hc1, hm1, own1, hb1⟩
  have O1 := Lib.hid own1
  clear own1
  go_wp2_with fail
  refine (around_any p 10 _ hp.1 hp.2 (by omega) (by omega)).mono ?_
  rintro e w_ ⟨rfl, rfl⟩
  go_wp2_with fail
  refine (inputs_any A2 n2 c2 l2 8 8 _ rfl H64.out (rd_step R2.out hb1) hn2 (by omega)).mono ?_
  rintro e w2 ⟨A3, c3, rfl, hc3, hm3, own3, hb2⟩
  have O3 := Lib.hid own3
  clear own3
  go_wp2
  refine name_world ?_
  intro X hX
  have BX : Below w.heap.size w X := by rw [hX]; (repeat (first | (with_reducible exact Below.refl _ _) | (with_reducible assumption) | (with_reducible refine b_drew ?_) | (with_reducible refine b_drewN ?_ _) | (with_reducible refine b_alloc ?_ _) | ((with_reducible refine b_set ?_ ?_ _); rotate_left; (focus (first | omega | (simp; done) | (simp; omega) | (simp at *; omega)))) | (with_reducible refine b_call ?_ (by with_reducible assumption))))
  have RS := Lib.hid (show Rd X X.heap.size 1 (some ⟨w2.heap.size, 0, none⟩) 3 ([p, around p 10, ((min n0 10 : Nat) : Int)].map (Value.int .i64)) from by rw [hX]; exact rd_lit _ _ _ rfl rfl)
  have RF := Lib.hid (show Rd X X.heap.size 1 A1 (min n0 10) ((l0.take 10).map (Value.int .u8)) from by rw [hX]; exact rd_step (rd_step (rd_own O1.out) hb2) (b_alloc (Below.refl _ _) _))
  have RI := Lib.hid (show Rd X X.heap.size 3 A3 (min n2 8) (flat ((l2.map inpOf).take 8)) from by rw [hX]; exact rd_step (rd_own O3.out) (b_alloc (Below.refl _ _) _))
  have TX := Lib.hid (show Tab X from TT.out.below BX)
  clear hX O1 O3 hb1 hb2 TT
  go_loopw [11] (fun i wr => ∃ k : Nat, k ≤ 3 ∧ i = .int .i64 k ∧ Below X.heap.size X wr) (fun i _ => 3 - (intOf i).toNat)
  case atStart => exact ⟨0, by omega, rfl, Below.refl _ _⟩
  case round =>
    obtain ⟨k, hk, rfl, hB⟩ := hrel
    by_cases hlt : k < 3
    · obtain ⟨b, o, hl, eb, hbb, hcell⟩ := (RS.out.below hB (Nat.le_refl _)).openMap hlt
      injection eb with eb
      injection eb with e1 e2
      subst e1 e2
      rw [Nat.zero_add] at hcell
      have hv : -9223372036854775808 ≤ [p, around p 10, ((min n0 10 : Nat) : Int)][k] ∧ [p, around p 10, ((min n0 10 : Nat) : Int)][k] ≤ 9223372036854775807 := by
        have h := List.getElem_mem hl
        simp only [List.mem_cons, List.not_mem_nil, or_false] at h
        rcases h with h | h | h <;> rw [h] <;> omega
      obtain ⟨v, hve⟩ : ∃ v, [p, around p 10, ((min n0 10 : Nat) : Int)][k] = v := ⟨_, rfl⟩
      rw [hve] at hcell hv
      clear hve
      have hPR := PR.out v
      go_wp2_with fail
      refine (parse_any A1 _ c1 _ v _ hv HL.out (rd_step RF.out hB) (by omega) (TX.out.below hB)).mono ?_
      rintro e w3 ⟨A4, c4, rfl, hc4, hm4, own4, hb3⟩
      have O4 := Lib.hid own4
      have hB3 := b_call hB hb3
      have hcell3 := cell_keep hb3 hcell
      clear own4
      go_wp2_with fail
      refine (refparse_any A1 _ c1 _ v _ hv HL.out (rd_step RF.out hB3) (by omega)).mono ?_
      rintro e w4 ⟨A5, c5, rfl, hc5, hm5, own5, hb4⟩
      have O5 := Lib.hid own5
      have hB4 := b_call hB3 hb4
      clear own5
      generalize parseE (l0.take 10) v = PE at *
      generalize parseL (l0.take 10) v = PL at *
      have hEE : (PE != PE) = false := by simp
      go_wp2_with fail
      refine (equal_any A4 A5 _ c4 _ c5 PL PL _ (rd_step (rd_own O4.out) hb4) (rd_own O5.out) (by omega) (by omega)).mono ?_
      rintro e w5 ⟨rfl, hb5⟩
      have hDD : decide (PL = PL) = true := by simp
      go_wp2
      go_roundw
      case rel => exact ⟨k + 1, by omega, by go_num, b_call hB4 hb5⟩
      case measure => simp [intOf]; omega
    · go_wp2
      refine name_world ?_
      intro Y hY
      have BY : Below w.heap.size w Y := by rw [hY]; exact BX.trans (hB.mono BX.size)
      have RI2 := Lib.hid (show Rd Y Y.heap.size 3 A3 (min n2 8) (flat ((l2.map inpOf).take 8)) from by rw [hY]; exact rd_step RI.out hB)
      clear hY hB RS RF TX
      have HV := Lib.hid (inps_val l2 8)
      go_region_with (first
        | (go_at_call 25; refine (row_any A3 _ c3 _ _ HV.out (rd_step RI2.out (by (repeat (first | (with_reducible exact Below.refl _ _) | (with_reducible assumption) | (with_reducible refine b_drew ?_) | (with_reducible refine b_drewN ?_ _) | (with_reducible refine b_alloc ?_ _) | ((with_reducible refine b_set ?_ ?_ _); rotate_left; (focus (first | omega | (simp; done) | (simp; omega) | (simp at *; omega)))) | (with_reducible refine b_call ?_ (by with_reducible assumption)))))) (by omega)).mono ?_; rintro e w5 ⟨A5, c5, rfl, hc5, hm5, own5, hb5⟩; have hcv5 := conv_later (P := Tryd.prog) (src := 37) (dst := 9) Tryd.underlying37 Tryd.underlying5 Tryd.underlying9 c5 (rd_own own5); have hcw5 := hcv5 _ (Below.refl _ _))
        | (go_at_call 26; refine (refrow_any A3 _ c3 _ _ HV.out (rd_step RI2.out (by (repeat (first | (with_reducible exact Below.refl _ _) | (with_reducible assumption) | (with_reducible refine b_drew ?_) | (with_reducible refine b_drewN ?_ _) | (with_reducible refine b_alloc ?_ _) | ((with_reducible refine b_set ?_ ?_ _); rotate_left; (focus (first | omega | (simp; done) | (simp; omega) | (simp at *; omega)))) | (with_reducible refine b_call ?_ (by with_reducible assumption)))))) (by omega)).mono ?_; rintro e w6 ⟨A6, c6, rfl, hc6, hm6, own6, hb6⟩; have hcv6 := conv_later (P := Tryd.prog) (src := 37) (dst := 9) Tryd.underlying37 Tryd.underlying5 Tryd.underlying9 c6 (rd_own own6); have hcw6 := hcv6 _ (Below.refl _ _))
        | (go_at_call 15; refine (lives_any _).mono ?_; rintro e w7 ⟨rfl, hb7⟩))
      all_goals (go_wp2; go_ret; exact ⟨rfl, by (repeat (first | (with_reducible exact Below.refl _ _) | (with_reducible assumption) | (with_reducible refine b_drew ?_) | (with_reducible refine b_drewN ?_ _) | (with_reducible refine b_alloc ?_ _) | ((with_reducible refine b_set ?_ ?_ _); rotate_left; (focus (first | omega | (simp; done) | (simp; omega) | (simp at *; omega)))) | (with_reducible refine b_call ?_ (by with_reducible assumption))))⟩)
end Go.Proofs.YtlaeambhdpagdaaDoor
