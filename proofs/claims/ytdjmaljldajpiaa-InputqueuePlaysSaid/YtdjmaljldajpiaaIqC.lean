/-
  WHAT IS PROVED HERE: the contract of package inputqueue's Offer. No condition but that the queue lies in memory as stated, and that the numbers are a machine's.
-/
import Derived.Test.YtdjmaljldajpiaaIqA
import Derived.Deep.RegionHeld3
namespace Go.Proofs.Ytdjmaljldajpiaa
set_option linter.unusedVariables false
open Go.ChangeShapes Go.WideShapes Go.ChangeAt Go.RowKit
open Go.Maps (Keyed)

/-- What Offer answers. -/
def offerE (k n : Nat) (pd : Nat → Nat → Option Inp) (now player tick : Int) (x : Inp) : Int :=
  if player < 0 ∨ (k : Int) ≤ player then 17 else if ¬ Val x then 1 else if tick < 0 ∨ 6000 ≤ tick ∨ now < tick - 8 then 18 else if tick < (n : Int) then 20 else if (pd tick.toNat player.toNat).isSome then 4 else 0
/-- What is pending behind an accepted offer. -/
def offerP (pd : Nat → Nat → Option Inp) (player tick : Int) (x : Inp) : Nat → Nat → Option Inp := fun t q => if t = tick.toNat ∧ q = player.toNat then some x else pd t q
def I64 (x : Int) : Prop := -9223372036854775808 ≤ x ∧ x ≤ 9223372036854775807

section
variable (p b : Nat) (g : Option Nat) (k wt nm : Nat) (pd : Nat → Nat → Option Inp) (rows : List RowV) (now player tick : Int) (x y z : Int) (w : World)
set_option maxHeartbeats 1000000 in
theorem offer_bad (h : Iqu w p b g k wt nm pd rows) (hn : I64 now) (hp : I64 player) (ht : I64 tick) (hr : rows.length ≤ 100000) (he : ¬ offerE k rows.length pd now player tick (x, y, z) = 4) (he0 : ¬ offerE k rows.length pd now player tick (x, y, z) = 0) :
    Calls Try.prog 16 #[.pointer (some ⟨p, 0, none⟩), .int .i64 now, .int .i64 player, .int .i64 tick, .agg #[.int .i64 x, .int .i64 y, .int .i64 z]] w fun e w' => e = .returned (.int .i64 (offerE k rows.length pd now player tick (x, y, z))) ∧ Below w.heap.size w w' := by
  obtain ⟨A, c, h0, h1, h2, h3, h4, h5, _⟩ := h.cells
  have hpl := h.lt p (.inl rfl)
  unfold I64 at hn hp ht
  have EO := Lib.hid (show offerE k rows.length pd now player tick (x, y, z) = offerE k rows.length pd now player tick (x, y, z) from rfl)
  clear h
  by_cases c1 : player < 0
  · have E1 := Lib.hid (show offerE k rows.length pd now player tick (x, y, z) = 17 from by unfold offerE; rw [if_pos (.inl c1)])
    clear he he0
    go_enter Try.func16, Try.ntmps16
    go_wp2
    go_ret
    exact ⟨ret_int (by rw [E1.out]), by (repeat (first | (with_reducible exact Below.refl _ _) | (with_reducible assumption) | (with_reducible refine b_drew ?_) | (with_reducible refine b_drewN ?_ _) | (with_reducible refine b_alloc ?_ _) | ((with_reducible refine b_set ?_ ?_ _); rotate_left; (focus (first | omega | (simp; done) | (simp; omega) | (simp at *; omega)))) | (with_reducible refine b_call ?_ (by with_reducible assumption))))⟩
  by_cases c2 : (k : Int) ≤ player
  · have E1 := Lib.hid (show offerE k rows.length pd now player tick (x, y, z) = 17 from by unfold offerE; rw [if_pos (.inr c2)])
    have hd : decide (player < 0) = false := by simpa using c1
    clear he he0
    go_enter Try.func16, Try.ntmps16
    go_wp2
    go_ret
    exact ⟨ret_int (by rw [E1.out]), by (repeat (first | (with_reducible exact Below.refl _ _) | (with_reducible assumption) | (with_reducible refine b_drew ?_) | (with_reducible refine b_drewN ?_ _) | (with_reducible refine b_alloc ?_ _) | ((with_reducible refine b_set ?_ ?_ _); rotate_left; (focus (first | omega | (simp; done) | (simp; omega) | (simp at *; omega)))) | (with_reducible refine b_call ?_ (by with_reducible assumption))))⟩
  have hd : decide (player < 0) = false := by simpa using c1
  have hd2 : decide ((k : Int) ≤ player) = false := by simpa using c2
  by_cases c3 : Val (x, y, z)
  · have hv := vcode_yes c3
    by_cases c4 : tick < 0
    · have E1 := Lib.hid (show offerE k rows.length pd now player tick (x, y, z) = 18 from by unfold offerE; rw [if_neg (by omega), if_neg (by simpa using c3), if_pos (.inl c4)])
      clear he he0 c1 c2 c3
      go_enter Try.func16, Try.ntmps16
      go_wp2_with fail
      refine (validate3 _ _ _ _).mono ?_
      rintro e w2 ⟨rfl, hb2⟩
      go_wp2
      go_ret
      exact ⟨ret_int (by rw [E1.out]), by (repeat (first | (with_reducible exact Below.refl _ _) | (with_reducible assumption) | (with_reducible refine b_drew ?_) | (with_reducible refine b_drewN ?_ _) | (with_reducible refine b_alloc ?_ _) | ((with_reducible refine b_set ?_ ?_ _); rotate_left; (focus (first | omega | (simp; done) | (simp; omega) | (simp at *; omega)))) | (with_reducible refine b_call ?_ (by with_reducible assumption))))⟩
    by_cases c5 : 6000 ≤ tick
    · have E1 := Lib.hid (show offerE k rows.length pd now player tick (x, y, z) = 18 from by unfold offerE; rw [if_neg (by omega), if_neg (by simpa using c3), if_pos (.inr (.inl c5))])
      have hd3 : decide (tick < 0) = false := by simpa using c4
      have hd4 : decide (6000 ≤ tick) = true := by simpa using c5
      clear he he0 c1 c2 c3
      go_enter Try.func16, Try.ntmps16
      go_wp2_with fail
      refine (validate3 _ _ _ _).mono ?_
      rintro e w2 ⟨rfl, hb2⟩
      go_wp2
      go_ret
      exact ⟨ret_int (by rw [E1.out]), by (repeat (first | (with_reducible exact Below.refl _ _) | (with_reducible assumption) | (with_reducible refine b_drew ?_) | (with_reducible refine b_drewN ?_ _) | (with_reducible refine b_alloc ?_ _) | ((with_reducible refine b_set ?_ ?_ _); rotate_left; (focus (first | omega | (simp; done) | (simp; omega) | (simp at *; omega)))) | (with_reducible refine b_call ?_ (by with_reducible assumption))))⟩
    have hd3 : decide (tick < 0) = false := by simpa using c4
    have hd4 : decide (6000 ≤ tick) = false := by simpa using c5
    have ht0 : 0 ≤ tick := by omega
    have ht6 : tick < 6000 := by omega
    by_cases c6 : now < tick - 8
    · have E1 := Lib.hid (show offerE k rows.length pd now player tick (x, y, z) = 18 from by unfold offerE; rw [if_neg (by omega), if_neg (by simpa using c3), if_pos (.inr (.inr c6))])
      have hd5 : decide (now < tick - 8) = true := by simpa using c6
      clear he he0 c1 c2 c3
      go_enter Try.func16, Try.ntmps16
      go_wp2_with fail
      refine (validate3 _ _ _ _).mono ?_
      rintro e w2 ⟨rfl, hb2⟩
      go_wp2
      go_ret
      exact ⟨ret_int (by rw [E1.out]), by (repeat (first | (with_reducible exact Below.refl _ _) | (with_reducible assumption) | (with_reducible refine b_drew ?_) | (with_reducible refine b_drewN ?_ _) | (with_reducible refine b_alloc ?_ _) | ((with_reducible refine b_set ?_ ?_ _); rotate_left; (focus (first | omega | (simp; done) | (simp; omega) | (simp at *; omega)))) | (with_reducible refine b_call ?_ (by with_reducible assumption))))⟩
    by_cases c7 : tick < (rows.length : Int)
    · have E1 := Lib.hid (show offerE k rows.length pd now player tick (x, y, z) = 20 from by unfold offerE; rw [if_neg (by omega), if_neg (by simpa using c3), if_neg (by omega), if_pos c7])
      have hd5 : decide (now < tick - 8) = false := by simpa using c6
      clear he he0 c1 c2 c3
      go_enter Try.func16, Try.ntmps16
      go_wp2_with fail
      refine (validate3 _ _ _ _).mono ?_
      rintro e w2 ⟨rfl, hb2⟩
      obtain ⟨bc2, bf2⟩ := bcell hb2
      have hz2 := hb2.size
      go_wp2
      go_ret
      exact ⟨ret_int (by rw [E1.out]), by (repeat (first | (with_reducible exact Below.refl _ _) | (with_reducible assumption) | (with_reducible refine b_drew ?_) | (with_reducible refine b_drewN ?_ _) | (with_reducible refine b_alloc ?_ _) | ((with_reducible refine b_set ?_ ?_ _); rotate_left; (focus (first | omega | (simp; done) | (simp; omega) | (simp at *; omega)))) | (with_reducible refine b_call ?_ (by with_reducible assumption))))⟩
    · exfalso
      unfold offerE at he he0
      rw [if_neg (by omega), if_neg (by simpa using c3), if_neg (by omega), if_neg c7] at he he0
      by_cases c8 : (pd tick.toNat player.toNat).isSome = true
      · rw [if_pos c8] at he
        exact he rfl
      · rw [if_neg c8] at he0
        exact he0 rfl
  · have hv := vcode_no c3
    have E1 := Lib.hid (show offerE k rows.length pd now player tick (x, y, z) = 1 from by unfold offerE; rw [if_neg (by omega), if_pos c3])
    clear he he0 c1 c2 c3
    go_enter Try.func16, Try.ntmps16
    go_wp2_with fail
    refine (validate3 _ _ _ _).mono ?_
    rintro e w2 ⟨rfl, hb2⟩
    go_wp2
    go_ret
    exact ⟨ret_int (by rw [E1.out]), by (repeat (first | (with_reducible exact Below.refl _ _) | (with_reducible assumption) | (with_reducible refine b_drew ?_) | (with_reducible refine b_drewN ?_ _) | (with_reducible refine b_alloc ?_ _) | ((with_reducible refine b_set ?_ ?_ _); rotate_left; (focus (first | omega | (simp; done) | (simp; omega) | (simp at *; omega)))) | (with_reducible refine b_call ?_ (by with_reducible assumption))))⟩

end
theorem keyInt : Keyed Try.prog 3 := Go.Maps.int_keyed Try.underlying3
theorem wfN {k : Nat} (h : k ≤ 10000) : (Lit.int .i64 (k : Int)).wf = true := by
  unfold Lit.wf
  rw [Bool.and_eq_true, decide_eq_true_iff, decide_eq_true_iff]
  exact ⟨Int.le_trans (by decide : IntKind.i64.min ≤ 0) (by omega), Int.le_trans (by omega : (k : Int) ≤ 10000) (by decide)⟩
theorem keyN {k : Nat} (h : k ≤ 10000) : keyOf Try.prog 3 (.int .i64 (k : Int)) = some (.int .i64 (k : Int)) := Go.Maps.keyOf_int_mk Try.underlying3 (wfN h)
theorem zeroSlots (w : World) : (zeroValue 69).run Try.prog w = .ok noSlots w := by kernel_rfl
theorem infoSlots : (Try.prog.info? 69).map (·.size) = some 32 := by kernel_rfl
section
variable (p b : Nat) (g : Option Nat) (k wt nm : Nat) (pd : Nat → Nat → Option Inp) (rows : List RowV) (now : Int) (P T : Nat) (x y z : Int) (w : World)
set_option maxRecDepth 100000 in
set_option maxHeartbeats 2000000 in
theorem offer_dup (h : Iqu w p b g k wt nm pd rows) (hn : I64 now) (hP : P < k) (hk : k ≤ 8) (hT : T < 6000) (hTn : (T : Int) - 8 ≤ now) (hTr : rows.length ≤ T) (hv : Val (x, y, z)) (hd : (pd T P).isSome = true) :
    Calls Try.prog 16 #[.pointer (some ⟨p, 0, none⟩), .int .i64 now, .int .i64 (P : Int), .int .i64 (T : Int), .agg #[.int .i64 x, .int .i64 y, .int .i64 z]] w fun e w' => e = .returned (.int .i64 4) ∧ Below w.heap.size w w' := by
  obtain ⟨A, c, h0, h1, h2, h3, h4, h5, _⟩ := h.cells
  have hpl := h.lt p (.inl rfl)
  obtain ⟨_, _, F, _, _, _, _, hM, hF, _⟩ := h
  have HM := Lib.hid hM
  have HF := Lib.hid (hF T (by omega))
  unfold I64 at hn
  obtain ⟨o, ho⟩ := Option.isSome_iff_exists.1 hd
  have hs := slotsC_get (pd T) (i := P) (j := 3) (by omega) (by omega)
  rw [ho] at hs
  replace hs : (slotsC (pd T))[P * 4 + 3]? = some (.bool true) := hs
  have hv0 := vcode_yes hv
  have d1 : decide ((P : Int) < 0) = false := by simp
  have d2 : decide (k ≤ P) = false := by simp; omega
  have d3 : decide ((T : Int) < 0) = false := by simp
  have d4 : decide (6000 ≤ (T : Int)) = false := by simp; omega
  have d4' : decide (6000 ≤ T) = false := by simp; omega
  have d5 : decide (now < (T : Int) - 8) = false := by simp; omega
  have d6 : decide (T < rows.length) = false := by simp; omega
  clear hM hF hd ho hv
  generalize rows.length = n at *
  go_enter Try.func16, Try.ntmps16
  go_wp2_with fail
  refine (validate3 _ _ _ _).mono ?_
  rintro e w2 ⟨rfl, hb2⟩
  obtain ⟨bc2, bf2⟩ := bcell hb2
  have hz2 := hb2.size
  have HM2 := Lib.hid ((HM.out.alloc (.cells #[.int .i64 x, .int .i64 y, .int .i64 z] 34)).call hb2)
  go_wp2_with (first
    | (at_lookup; refine wpList_lookV _ rfl (.tmp 50) (.tmp 51) 59 rfl keyInt Try.underlying59 (zeroSlots _) rfl HM2.out rfl (keyN (by omega)) HF.out ?_)
    | (refine wpList_store_new rfl 69 (.tmp 12) (.tmp 52) rfl _ (slotsC (pd T)).toArray rfl rfl (by rw [List.size_toArray, slotsC_len]; exact infoSlots) (by simp [slotsC_len]) (all_oneCell_toArray (slotsC_cell _)) ?_))
  go_ret
  exact ⟨rfl, by (repeat (first | (with_reducible exact Below.refl _ _) | (with_reducible assumption) | (with_reducible refine b_drew ?_) | (with_reducible refine b_drewN ?_ _) | (with_reducible refine b_alloc ?_ _) | ((with_reducible refine b_set ?_ ?_ _); rotate_left; (focus (first | omega | (simp; done) | (simp; omega) | (simp at *; omega)))) | (with_reducible refine b_call ?_ (by with_reducible assumption))))⟩

/-- The slots behind an accepted offer. -/
theorem slots_put (f : Nat → Option Inp) {P : Nat} (hP : P < 8) (x y z : Int) : ((((slotsC f).set (P * 4) (.int .i64 x)).set (P * 4 + 1) (.int .i64 y)).set (P * 4 + 2) (.int .i64 z)).set (P * 4 + 3) (.bool true) = slotsC (fun q => if q = P then some (x, y, z) else f q) := by
  refine List.ext_getElem? fun j => ?_
  rcases Nat.lt_or_ge j 32 with hj | hj
  · obtain ⟨i, q, hq, rfl⟩ : ∃ i q, q < 4 ∧ j = i * 4 + q := ⟨j / 4, j % 4, by omega, by omega⟩
    rw [slotsC_get _ (by omega) hq]
    have h0 := slotsC_get f (i := i) (j := q) (by omega) hq
    have hl := slotsC_len f
    by_cases hi : i = P
    · subst hi
      simp only [if_true]
      have hm : q = 0 ∨ q = 1 ∨ q = 2 ∨ q = 3 := by omega
      rcases hm with rfl | rfl | rfl | rfl <;> simp [List.getElem?_set, slotC, hl] <;> omega
    · rw [if_neg hi, ← h0]
      rw [List.getElem?_set_ne (by omega), List.getElem?_set_ne (by omega), List.getElem?_set_ne (by omega), List.getElem?_set_ne (by omega)]
  · rw [List.getElem?_eq_none (by simp [slotsC_len]; exact hj), List.getElem?_eq_none (by rw [slotsC_len]; exact hj)]
end
end Go.Proofs.Ytdjmaljldajpiaa
