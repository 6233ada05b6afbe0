/-
  WHAT IS PROVED HERE: the reference's queue in memory, its rows too; the contract of its complete; what is pending by the reference's list. No condition but that the queue lies in memory as stated.
-/
import Derived.Test.YtdjmaljldajpiaaIqW
import Derived.Test.YtdjmaljldajpiaaIqO
namespace Go.Proofs.Ytdjmaljldajpiaa
set_option linter.unusedVariables false
open Go.ChangeShapes Go.WideShapes Go.ChangeAt Go.RowKit

/-- A slice that reads so, outside F. -/
def RdF (w : World) (F : Nat → Prop) (sz : Nat) (A : Option Addr) (n : Nat) (xs : List Value) : Prop := Rd w w.heap.size sz A n xs ∧ ∀ ad, A = some ad → ad.block < w.heap.size ∧ ¬ F ad.block
section
variable {w w' : World} {F G : Nat → Prop} {sz n k c base : Nat} {A : Option Addr} {e : TypeId} {xs : List Value}
theorem RdF.only (h : RdF w F sz A n xs) (hO : Only F w w') : RdF w' F sz A n xs :=
  ⟨(rd_onlyF h.1 (Nat.le_refl _) hO fun a e => (h.2 a e).2).more hO.size, fun ad e => ⟨Nat.lt_of_lt_of_le (h.2 ad e).1 hO.size, (h.2 ad e).2⟩⟩
theorem RdF.call (h : RdF w F sz A n xs) (hb : Below w.heap.size w w') : RdF w' F sz A n xs := h.only (Only.of_below hb F fun k h1 h2 => by omega)
theorem RdF.weak (h : RdF w F sz A n xs) (hG : ∀ j, j < w.heap.size → G j → F j) : RdF w G sz A n xs := ⟨h.1, fun ad e => ⟨(h.2 ad e).1, fun hg => (h.2 ad e).2 (hG _ (h.2 ad e).1 hg)⟩⟩
theorem RdF.nil (w : World) (F : Nat → Prop) (sz : Nat) : RdF w F sz none 0 [] := ⟨Rd.nil _, fun ad e => by cases e⟩
theorem RdF.of_own (h : w.ownsRow base e sz (.slice A n c) n xs) (hF : ∀ j, F j → j < base) : RdF w F sz A n xs :=
  ⟨rd_own h, fun ad ha => ⟨(own_blk h ad ha).2.1, fun hf => by have := (own_blk h ad ha).1; have := hF _ hf; omega⟩⟩
end
/-- A slice of slices of k elements each, outside F. -/
structure RowsF (w : World) (F : Nat → Prop) (sz k : Nat) (A : Option Addr) (n : Nat) (xss : List (List Value)) : Prop where
  ex : ∃ hd : List (Option Addr × Nat), hd.length = n ∧ xss.length = n ∧ RdF w F 1 A n (hd.map fun h => Value.slice h.1 k h.2) ∧ ∀ (t : Nat) (h1 : t < hd.length) (h2 : t < xss.length), RdF w F sz hd[t].1 k xss[t]
section
variable {w w' : World} {F G : Nat → Prop} {sz n k : Nat} {A : Option Addr} {xss : List (List Value)}
theorem RowsF.only (h : RowsF w F sz k A n xss) (hO : Only F w w') : RowsF w' F sz k A n xss := by
  obtain ⟨hd, h1, h2, h3, h4⟩ := h.ex
  exact ⟨hd, h1, h2, h3.only hO, fun t a b => (h4 t a b).only hO⟩
theorem RowsF.call (h : RowsF w F sz k A n xss) (hb : Below w.heap.size w w') : RowsF w' F sz k A n xss := h.only (Only.of_below hb F fun k h1 h2 => by omega)
theorem RowsF.weak (h : RowsF w F sz k A n xss) (hG : ∀ j, j < w.heap.size → G j → F j) : RowsF w G sz k A n xss := by
  obtain ⟨hd, h1, h2, h3, h4⟩ := h.ex
  exact ⟨hd, h1, h2, h3.weak hG, fun t a b => (h4 t a b).weak hG⟩
theorem RowsF.nil (w : World) (F : Nat → Prop) (sz k : Nat) : RowsF w F sz k none 0 [] := ⟨[], rfl, rfl, RdF.nil w F 1, fun t h => by simp at h⟩
theorem RowsF.open {t : Nat} (h : RowsF w F sz k A n xss) (ht : t < n) : ∃ b o A' c', ∃ hl : t < xss.length, A = some ⟨b, o, none⟩ ∧ b < w.heap.size ∧ w.cell? ⟨b, o + t, none⟩ = some (.slice A' k c') ∧ RdF w F sz A' k xss[t] := by
  obtain ⟨hd, h1, h2, h3, h4⟩ := h.ex
  have hh : t < hd.length := by omega
  have hx : t < xss.length := by omega
  have hg : (hd.map fun h => Value.slice h.1 k h.2)[t]? = some (.slice hd[t].1 k hd[t].2) := by simp [hh]
  obtain ⟨b, o, e, hb, hc⟩ := h3.1.2 (by intro e; rw [e] at hg; simp at hg)
  exact ⟨b, o, hd[t].1, hd[t].2, hx, e, hb, hc t _ hg, h4 t hh hx⟩
end
/-- The reference's queue in memory, outside F. -/
structure RQ (w : World) (F : Nat → Prop) (k : Nat) (AL : Option Addr) (L : List OneV) (AR AM : Option Addr) (rows : List RowV) : Prop where
  l : RdF w F 5 AL L.length (onesC L)
  r : RowsF w F 3 k AR rows.length (rows.map fun r => flat (firstI k r))
  m : RowsF w F 1 k AM rows.length (rows.map fun r => (firstB k r).map Value.bool)
section
variable {w w' : World} {F G : Nat → Prop} {k : Nat} {AL AR AM : Option Addr} {L : List OneV} {rows : List RowV}
theorem RQ.only (h : RQ w F k AL L AR AM rows) (hO : Only F w w') : RQ w' F k AL L AR AM rows := ⟨h.l.only hO, h.r.only hO, h.m.only hO⟩
theorem RQ.call (h : RQ w F k AL L AR AM rows) (hb : Below w.heap.size w w') : RQ w' F k AL L AR AM rows := ⟨h.l.call hb, h.r.call hb, h.m.call hb⟩
theorem RQ.weak (h : RQ w F k AL L AR AM rows) (hG : ∀ j, j < w.heap.size → G j → F j) : RQ w G k AL L AR AM rows := ⟨h.l.weak hG, h.r.weak hG, h.m.weak hG⟩
theorem RQ.openR {t : Nat} (h : RQ w F k AL L AR AM rows) (ht : t < rows.length) : ∃ b o A c, AR = some ⟨b, o, none⟩ ∧ b < w.heap.size ∧ w.cell? ⟨b, o + t, none⟩ = some (.slice A k c) ∧ RdF w F 3 A k (flat (firstI k rows[t])) := by
  obtain ⟨b, o, A, c, hl, h1, h2, h3, h4⟩ := h.r.open ht
  exact ⟨b, o, A, c, h1, h2, h3, by simpa using h4⟩
theorem RQ.openM {t : Nat} (h : RQ w F k AL L AR AM rows) (ht : t < rows.length) : ∃ b o A c, AM = some ⟨b, o, none⟩ ∧ b < w.heap.size ∧ w.cell? ⟨b, o + t, none⟩ = some (.slice A k c) ∧ RdF w F 1 A k ((firstB k rows[t]).map Value.bool) := by
  obtain ⟨b, o, A, c, hl, h1, h2, h3, h4⟩ := h.m.open ht
  exact ⟨b, o, A, c, h1, h2, h3, by simpa using h4⟩
end
/-- The accepted input of a player for a tick. -/
def inL (L : List OneV) (P T : Int) : Option Inp := (L.find? fun o => decide (isOne P T o)).map fun o => o.2.2
theorem inL_yes {L : List OneV} {P T : Int} (h : 0 ≤ findI L P T) : ∃ (i : Nat) (hi : i < L.length), findI L P T = i ∧ inL L P T = some L[i].2.2 := by
  rcases findI_cases L P T with ⟨h1, _⟩ | ⟨i, hi, h1, h2, h3⟩
  · omega
  · refine ⟨i, hi, h1, ?_⟩
    have : L.find? (fun o => decide (isOne P T o)) = some L[i] := List.find?_eq_some_iff_getElem.2 ⟨by simpa using h2, i, hi, rfl, fun j hj => by simpa using h3 j (by omega) hj⟩
    unfold inL
    rw [this]
    rfl
theorem inL_no {L : List OneV} {P T : Int} (h : ¬ 0 ≤ findI L P T) : inL L P T = none := by
  rcases findI_cases L P T with ⟨h1, h2⟩ | ⟨i, hi, h1, h2, h3⟩
  · have : L.find? (fun o => decide (isOne P T o)) = none := List.find?_eq_none.2 fun o ho => by simpa using h2 o ho
    unfold inL
    rw [this]
    rfl
  · omega
theorem inL_some {L : List OneV} {P T : Int} : (inL L P T).isSome = true ↔ 0 ≤ findI L P T := by
  by_cases h : 0 ≤ findI L P T
  · obtain ⟨i, hi, _, h2⟩ := inL_yes h
    simp [h, h2]
  · simp [h, inL_no h]
/-- What is pending from tick n on is what the reference accepted. -/
def LPV (n : Nat) (pd : PD) (L : List OneV) : Prop := ∀ T P : Nat, n ≤ T → pd T P = inL L P T
theorem lpv_new : LPV 0 (fun _ _ => none) [] := fun T P _ => rfl
theorem lpv_E {pd : PD} {L : List OneV} {n : Nat} (h : LPV n pd L) (k : Nat) (now player tick : Int) (x : Inp) : refE k n L now player tick x = offerE k n pd now player tick x := by
  unfold refE offerE
  by_cases c1 : player < 0 ∨ (k : Int) ≤ player
  · rw [if_pos c1, if_pos c1]
  rw [if_neg c1, if_neg c1]
  by_cases c2 : ¬ Val x
  · rw [if_pos c2, if_pos c2]
  rw [if_neg c2, if_neg c2]
  by_cases c3 : tick < 0 ∨ 6000 ≤ tick ∨ now + 8 < tick
  · have c3' : tick < 0 ∨ 6000 ≤ tick ∨ now < tick - 8 := by omega
    rw [if_pos c3, if_pos c3']
  have c3' : ¬ (tick < 0 ∨ 6000 ≤ tick ∨ now < tick - 8) := by omega
  rw [if_neg c3, if_neg c3']
  by_cases c4 : tick < (n : Int)
  · rw [if_pos c4, if_pos c4]
  rw [if_neg c4, if_neg c4]
  have := h tick.toNat player.toNat (by omega)
  rw [show ((player.toNat : Nat) : Int) = player from by omega, show ((tick.toNat : Nat) : Int) = tick from by omega] at this
  by_cases c5 : 0 ≤ findI L player tick
  · rw [if_pos c5, if_pos (by rw [this]; exact inL_some.2 c5)]
  · rw [if_neg c5, if_neg (by rw [this]; exact fun h => c5 (inL_some.1 h))]
theorem lpv_off {s : QS} {L : List OneV} (h : LPV s.2.length s.1 L) (k : Nat) (now player tick : Int) (x : Inp) : LPV (offS k now player tick x s).2.length (offS k now player tick x s).1 (refL k s.2.length L now player tick x) := by
  unfold offS refL
  rw [lpv_E h]
  by_cases he : offerE k s.2.length s.1 now player tick x = 0
  · rw [if_pos he, if_pos he]
    obtain ⟨⟨a1, a2⟩, a3, ⟨a4, a5⟩, a6, a7, a8⟩ := offerE_in (.inl he)
    intro T P hT
    have hT : s.2.length ≤ T := hT
    show offerP s.1 player tick x T P = _
    unfold offerP inL
    rw [List.find?_append]
    by_cases hc : T = tick.toNat ∧ P = player.toNat
    · rw [if_pos hc]
      have h1 := h T P hT
      have h2 : (s.1 T P).isSome = false := by
        rcases hx : (s.1 T P).isSome with _ | _
        · rfl
        · rw [hc.1, hc.2] at hx
          have := a8.1 hx
          omega
      have h3 : L.find? (fun o => decide (isOne P T o)) = none := by
        rcases hx : L.find? (fun o => decide (isOne P T o)) with _ | o
        · rfl
        · rw [h1] at h2
          unfold inL at h2
          rw [hx] at h2
          cases h2
      rw [h3]
      have h4 : isOne (P : Int) (T : Int) (player, tick, x) := by unfold isOne; simp only; omega
      simp [h4]
    · rw [if_neg hc, h T P hT]
      unfold inL
      have h4 : ¬ isOne (P : Int) (T : Int) (player, tick, x) := by
        unfold isOne
        simp only
        exact fun h => hc (by omega)
      have h5 : List.find? (fun o => decide (isOne (P : Int) (T : Int) o)) [(player, tick, x)] = none := by simp [h4]
      rw [h5, Option.or_none]
  · rw [if_neg he, if_neg he]
    exact h
/-- Whether all inputs of a tick were accepted. -/
def compL (k : Nat) (L : List OneV) (T : Int) : Bool := (List.range k).all fun i => decide (0 ≤ findI L i T)
theorem compL_eq {k n : Nat} {pd : PD} {L : List OneV} (h : LPV n pd L) : compL k L (n : Int) = compB k pd n := by
  unfold compL compB
  congr 1
  funext i
  rw [h n i (Nat.le_refl _), Bool.eq_iff_iff, inL_some]
  simp
theorem lpv_step {k : Nat} {s : QS} {L : List OneV} (h : LPV s.2.length s.1 L) : LPV (stepQ k s).2.length (stepQ k s).1 L := by
  intro T P hT
  rw [stepQ_len] at hT
  show dropP s.1 s.2.length T P = _
  unfold dropP
  rw [if_neg (by omega)]
  exact h T P (by omega)
theorem compL_yes {k : Nat} {L : List OneV} {T : Int} (h : ∀ i : Nat, i < k → 0 ≤ findI L i T) : compL k L T = true := by
  unfold compL
  rw [List.all_eq_true]
  intro i hi
  simpa using h i (List.mem_range.1 hi)
theorem compL_no {k i : Nat} {L : List OneV} {T : Int} (hi : i < k) (h : ¬ 0 ≤ findI L i T) : compL k L T = false := by
  unfold compL
  rw [Bool.eq_false_iff]
  intro hh
  rw [List.all_eq_true] at hh
  exact h (by simpa using hh i (List.mem_range.2 hi))
set_option maxHeartbeats 1000000 in
theorem refcomp_any (k wt : Nat) (AL : Option Addr) (n cL : Nat) (vR vM : Value) (L : List OneV) (T : Int) (w : World) (rd : Rd w w.heap.size 5 AL n (onesC L)) (hn : n ≤ 100000) (hk : k ≤ 1000) (hR : vR.oneCell' = true) (hM : vM.oneCell' = true) :
    Calls Try.prog 26 #[.agg #[.int .i64 k, .int .i64 wt, .slice AL n cL, vR, vM], .int .i64 T] w fun e w' => e = .returned (.bool (compL k L T)) ∧ Below w.heap.size w w' := by
  have RD := Lib.hid rd
  clear rd
  go_enter Try.func26, Try.ntmps26
  go_wp2
  refine name_world ?_
  intro X hX
  obtain ⟨q, hq⟩ : ∃ q, w.heap.size = q := ⟨_, rfl⟩
  have VX := Lib.hid (show Vr X q 30 #[.int .i64 k, .int .i64 wt, .slice AL n cL, vR, vM] from by rw [hX, ← hq]; exact Vr.new w _ _)
  have hBX := Lib.hid (show Below w.heap.size w X from by rw [hX]; (repeat (first | (with_reducible exact Below.refl _ _) | (with_reducible assumption) | (with_reducible refine b_drew ?_) | (with_reducible refine b_drewN ?_ _) | (with_reducible refine b_alloc ?_ _) | ((with_reducible refine b_set ?_ ?_ _); rotate_left; (focus (first | omega | (simp; done) | (simp; omega) | (simp at *; omega)))) | (with_reducible refine b_call ?_ (by with_reducible assumption)))))
  have RX := Lib.hid (rd_step RD.out hBX.out)
  rw [hq]
  clear hX RD hq
  go_loopw [5] (fun s5 wr => ∃ i : Nat, i ≤ k ∧ s5 = .int .i64 i ∧ Hid (∀ j : Nat, j < i → 0 ≤ findI L j T) ∧ Hid (Below X.heap.size X wr)) (fun s5 _ => k - (intOf s5).toNat)
  case atStart => exact ⟨0, by omega, rfl, Lib.hid (fun j h => absurd h (by omega)), Lib.hid (Below.refl _ _)⟩
  case round =>
    obtain ⟨i, hi, rfl, HT, HB⟩ := hrel
    have V := VX.out.call HB.out
    have z0 : wr.cell? ⟨q, 0, none⟩ = some (.int .i64 k) := V.cell 0
    have z1 : wr.cell? ⟨q, 1, none⟩ = some (.int .i64 wt) := V.cell 1
    have z2 : wr.cell? ⟨q, 2, none⟩ = some (.slice AL n cL) := V.cell 2
    have z3 : wr.cell? ⟨q, 3, none⟩ = some vR := V.cell 3
    have z4 : wr.cell? ⟨q, 4, none⟩ = some vM := V.cell 4
    clear V
    by_cases hlt : i < k
    · have d1 : decide ((i : Int) < (k : Int)) = true := by simp; omega
      have d1' : decide (i < k) = true := by simp; omega
      have RW := Lib.hid (rd_step RX.out HB.out)
      go_wp2_with fail
      refine (find_any (k : Int) (wt : Int) AL n cL vR vM L (i : Int) T _ RW.out hn hR hM).mono ?_
      rintro e w3 ⟨rfl, hb3⟩
      have HB3 := Lib.hid (b_call HB.out hb3)
      clear hb3 RW
      by_cases hf : 0 ≤ findI L i T
      · have HT2 := Lib.hid (show ∀ j : Nat, j < i + 1 → 0 ≤ findI L j T from fun j hj => by
          rcases Nat.lt_or_ge j i with h | h
          · exact HT.out j h
          · obtain rfl : j = i := by omega
            exact hf)
        have d2 : decide (findI L (i : Int) T < 0) = false := by simp; omega
        clear hf HT
        go_wp2
        go_roundw
        case rel => exact ⟨i + 1, by omega, by go_num, HT2, HB3⟩
        case measure => simp [intOf]; omega
      · have d2 : decide (findI L (i : Int) T < 0) = true := by simp; omega
        have E1 := Lib.hid (compL_no hlt hf)
        clear hf HT
        go_wp2
        go_ret
        exact ⟨ret_bool (by rw [E1.out]), b_call hBX.out HB3.out⟩
    · have d1 : decide ((i : Int) < (k : Int)) = false := by simp; omega
      have d1' : decide (i < k) = false := by simp; omega
      have E1 := Lib.hid (compL_yes (k := k) (L := L) (T := T) fun j hj => HT.out j (by omega))
      go_wp2
      go_ret
      exact ⟨ret_bool (by rw [E1.out]), b_call hBX.out HB.out⟩
end Go.Proofs.Ytdjmaljldajpiaa
