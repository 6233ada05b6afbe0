/-
  WHAT IS PROVED HERE: the contract of package commitreveal's Result. No condition but that the round and the last inputs lie in memory as stated.
-/
import Derived.Test.YtojmkfhinkmhaaaCrG
import Derived.Deep.Cut
import Derived.Deep.CutRange
import Derived.Test.YtojmkfhinkmhaaaFlat
namespace Go.Proofs.Ytojmkfhinkmhaaa
set_option linter.unusedVariables false
open Go.ChangeShapes Go.WideShapes Go.ChangeAt Go.RowKit

theorem slInts : SlT Try.prog 30 3 1 8 := .mk' (z := .int .i64 0) Try.underlying30 (by kernel_rfl) rfl (by omega)
/-- Two rows of unlike elements lie apart. -/
theorem own_apart {w : World} {b1 b2 : Nat} {e1 e2 : TypeId} {s1 s2 : Nat} {v1 v2 : Value} {n1 n2 : Nat} {x1 x2 : List Value} (h1 : w.ownsRow b1 e1 s1 v1 n1 x1) (h2 : w.ownsRow b2 e2 s2 v2 n2 x2) (hne : e1 ≠ e2) : v1.ownBlock = none ∨ v1.ownBlock ≠ v2.ownBlock := by
  rcases h1.2 with ⟨rfl, _⟩ | ⟨g1, c1, k1, rfl, _, hg1, _⟩
  · exact .inl rfl
  · refine .inr ?_
    rcases h2.2 with ⟨rfl, _⟩ | ⟨g2, c2, k2, rfl, _, hg2, _⟩
    · intro h; cases h
    · intro h
      have h : some g1 = some g2 := h
      injection h with h
      subst h
      rw [hg1] at hg2
      injection hg2 with hg2
      injection hg2 with _ h _
      exact hne h
theorem own_only {w w' : World} {base g : Nat} {e : TypeId} {sz n : Nat} {v : Value} {xs : List Value} (h : w.ownsRow base e sz v n xs) (hO : Only (· = g) w w') (hg : v.ownBlock ≠ some g) : w'.ownsRow base e sz v n xs := by
  refine ⟨h.1, ?_⟩
  rcases h.2 with h2 | ⟨b, cap, cur, rfl, hb, hh, hr⟩
  · exact .inl h2
  · refine .inr ⟨b, cap, cur, rfl, hb, ?_, hr⟩
    rw [hO.heap ?_ ?_]
    · exact hh
    · rcases Nat.lt_or_ge b w.heap.size with h1 | h1
      · exact h1
      · rw [Array.getElem?_eq_none h1] at hh; cases hh
    · intro hbg
      exact hg (congrArg some hbg)
theorem own_ne_vr {w : World} {base g : Nat} {e t : TypeId} {sz n : Nat} {v : Value} {xs : List Value} {cs : Array Value} (h : w.ownsRow base e sz v n xs) (hV : Vr w g t cs) (hne : e ≠ t) : v.ownBlock ≠ some g := by
  intro hg
  rcases h.2 with ⟨rfl, _⟩ | ⟨b, cap, cur, rfl, _, hh, _⟩
  · cases hg
  · have hg : some b = some g := hg
    injection hg with hg
    subst hg
    unfold Vr at hV
    rw [hh] at hV
    injection hV with hV
    injection hV with _ hV _
    exact hne hV
def resV (r : RdV) (last : List Inp) (p : Nat) : Inp := if (r.st p).r then (r.st p).i else pred (last.getD p (0, 0, 0))
def resL (r : RdV) (last : List Inp) (k : Nat) : List Inp := (List.range k).map (resV r last)
def resF (r : RdV) (k : Nat) : List Int := ((List.range k).filter fun (p : Nat) => !(r.st p).r).map fun (p : Nat) => (p : Int)
theorem resL_succ (r : RdV) (last : List Inp) (k : Nat) : resL r last (k + 1) = resL r last k ++ [resV r last k] := by simp [resL, List.range_succ]
theorem resF_yes {r : RdV} {k : Nat} (h : (r.st k).r = true) : resF r (k + 1) = resF r k := by simp [resF, List.range_succ, List.filter_append, h]
theorem resF_no {r : RdV} {k : Nat} (h : (r.st k).r = false) : resF r (k + 1) = resF r k ++ [(k : Int)] := by simp [resF, List.range_succ, List.filter_append, h]
theorem resF_le (r : RdV) (k : Nat) : (resF r k).length ≤ k := by
  unfold resF
  rw [List.length_map]
  exact Nat.le_trans (List.length_filter_le _ _) (by simp)
theorem resL_len (r : RdV) (last : List Inp) (k : Nat) : (resL r last k).length = k := by simp [resL]
/-- What Result hands back. -/
def RetRes (w : World) (r : RdV) (last : List Inp) (e : Ending) (w' : World) : Prop :=
  ∃ A1 c1 A2 c2, e = .returned (.tuple #[.slice A1 r.k c1, .slice A2 (resF r r.k).length c2]) ∧ w'.ownsRow w.heap.size 25 3 (.slice A1 r.k c1) r.k (flat (resL r last r.k)) ∧ w'.ownsRow w.heap.size 3 1 (.slice A2 (resF r r.k).length c2) (resF r r.k).length ((resF r r.k).map (Value.int .i64)) ∧ Below w.heap.size w w'
set_option maxRecDepth 100000 in
set_option maxHeartbeats 4000000 in
theorem result_any (p : Nat) (A : Option Addr) (n c : Nat) (last : List Inp) (r : RdV) (w : World) (h : Cr w p r) (hk : r.k ≤ 8) (rd : Rd w w.heap.size 3 A n (flat last)) :
    Calls Try.prog 19 #[.pointer (some ⟨p, 0, none⟩), .slice A n c] w (RetRes w r last) := by
  obtain ⟨x0, _, _, hp, _⟩ := h.facts
  have HC := Lib.hid h
  have RD := Lib.hid rd
  have HN := Lib.hid (show last.length = n from by have := rd.1; rw [flat_length] at this; omega)
  obtain ⟨k, hkk⟩ : ∃ k, r.k = k := ⟨_, rfl⟩
  have HK := Lib.hid hkk
  rw [hkk] at x0 hk
  clear h rd hkk
  have k1 : (0 : Int) ≤ (k : Int) := by omega
  have k2 : (k : Int) ≤ 8 := by omega
  go_enter Try.func19, Try.ntmps19
  go_wp2
  go_quiet (fail)
  go_wp2
  go_loopw [6, 7, 20] (fun s6 s7 s20 wr => ∃ (i : Nat) (A1 : Option Addr) (c1 : Nat) (A2 : Option Addr) (n2 c2 : Nat), i ≤ k ∧ s20 = .int .i64 i ∧ s6 = .slice A1 i c1 ∧ s7 = .slice A2 n2 c2 ∧ n2 ≤ i ∧ Hid (n2 = (resF r i).length) ∧ Hid (wr.ownsRow w.heap.size 25 3 (.slice A1 i c1) i (flat (resL r last i))) ∧ Hid (wr.ownsRow w.heap.size 3 1 (.slice A2 n2 c2) n2 ((resF r i).map (Value.int .i64))) ∧ Below w.heap.size w wr) (fun _ _ s20 _ => k - (intOf s20).toNat)
  case atStart => exact ⟨0, none, 0, none, 0, 0, by omega, rfl, rfl, rfl, Nat.le_refl _, rfl, Lib.hid (own_nil _ _ _ _), Lib.hid (own_nil _ _ _ _), below_drewN (Below.refl _ _) _⟩
  case round =>
    obtain ⟨i, A1, c1, A2, n2, c2, hi, rfl, rfl, rfl, hn2, HF, H1, H2, hB⟩ := hrel
    by_cases hlt : i < k
    · have HCr := HC.out.call hB
      obtain ⟨y0, y1, y2⟩ := HCr.st (q := i) (by omega)
      obtain ⟨y3, y4, y5⟩ := HCr.sti (q := i) (by omega)
      clear HCr
      have b1 : (0 : Int) ≤ (i : Int) := by omega
      have hsz := hB.size
      have HS := Lib.hid (resL_succ r last i)
      obtain ⟨⟨ia, ib, ic⟩, hii⟩ : ∃ x, (r.st i).i = x := ⟨_, rfl⟩
      rw [hii] at y3 y4 y5
      rcases hr : (r.st i).r with _ | _
      · have HR := Lib.hid (show resV r last i = pred (last.getD i (0, 0, 0)) from by unfold resV; rw [hr]; rfl)
        have HG := Lib.hid (resF_no hr)
        rw [hr] at y1
        clear hr hii
        go_upto_region 8 with (fail)
        refine name_world ?_
        intro X hX
        have hBX : Below wr.heap.size wr X := by rw [hX]; (repeat (first | (with_reducible exact Below.refl _ _) | (with_reducible assumption) | (with_reducible refine b_drew ?_) | (with_reducible refine b_drewN ?_ _) | (with_reducible refine b_alloc ?_ _) | ((with_reducible refine b_set ?_ ?_ _); rotate_left; (focus (first | omega | (simp; done) | (simp; omega) | (simp at *; omega)))) | (with_reducible refine b_call ?_ (by with_reducible assumption))))
        have V := Lib.hid (show Vr X (wr.heap.size + 1) 25 #[.int .i64 ia, .int .i64 ib, .int .i64 ic] from by rw [hX]; exact vr_new1 wr _ _ _)
        have hXs : X.heap.size = wr.heap.size + 1 + 1 := by rw [hX]; simp
        have HXs := Lib.hid hXs
        clear hX hXs
        have O2a := Lib.hid (own_below H2.out hBX)
        have hlt2 := fun k e => (O2a.out.lt k e).2
        have HL2 := Lib.hid (fun k e => (H2.out.lt k e).2)
        have hXw := (b_call hB hBX).size
        clear y0 y1 y2 y3 y4 y5 hlt2
        go_upto_region 9 with (at_builtin; refine wpList_app _ rfl (.tmp 30) (.tmp 32) slInts rfl rfl (own_below O2a.out (by (repeat (first | (with_reducible exact Below.refl _ _) | (with_reducible assumption) | (with_reducible refine b_drew ?_) | (with_reducible refine b_drewN ?_ _) | (with_reducible refine b_alloc ?_ _) | ((with_reducible refine b_set ?_ ?_ _); rotate_left; (focus (first | omega | (simp; done) | (simp; omega) | (simp at *; omega)))) | (with_reducible refine b_call ?_ (by with_reducible assumption)))))) rfl (rd_lit _ _ _ rfl rfl) (by intro u hu; simp at hu; subst hu; rfl) (n2 + 1) rfl (by unfold maxLen; omega) (by omega) (by simp; omega) ?_; intro A3 c3 w3 g1 g2 g3 g4 g5)
        have O2 := Lib.hid (show w3.ownsRow w.heap.size 3 1 (.slice A3 (n2 + 1) c3) (n2 + 1) ((resF r (i + 1)).map (Value.int .i64)) from by rw [HG.out, List.map_append]; exact g3)
        have O1 := Lib.hid ((own_below H1.out (b_alloc hBX (.cells #[.int .i64 i] 3))).kept g4 (own_apart (own_below H1.out (b_alloc hBX (.cells #[.int .i64 i] 3))) (own_below H2.out (b_alloc hBX _)) (by decide)))
        have V3 := Lib.hid ((V.out.alloc _).grown g4 (by
          intro e
          have := HL2.out _ e.symm
          omega))
        have hB3 : Below w.heap.size w w3 := below_app (b_alloc (b_call hB hBX) _) (own_below O2a.out (by (repeat (first | (with_reducible exact Below.refl _ _) | (with_reducible assumption) | (with_reducible refine b_drew ?_) | (with_reducible refine b_drewN ?_ _) | (with_reducible refine b_alloc ?_ _) | ((with_reducible refine b_set ?_ ?_ _); rotate_left; (focus (first | omega | (simp; done) | (simp; omega) | (simp at *; omega)))) | (with_reducible refine b_call ?_ (by with_reducible assumption)))))) g4 (Nat.le_refl _) (by simp; omega)
        have HF3 := Lib.hid (show n2 + 1 = (resF r (i + 1)).length from by rw [HG.out, List.length_append, ← HF.out]; rfl)
        have hz3 := V3.out.lt
        have hs3 := hB3.size
        have HL1 := Lib.hid (show (Value.slice A1 i c1).ownBlock ≠ some (wr.heap.size + 1) from fun e => by have := (H1.out.lt _ e).2; omega)
        clear HL2
        have HL2 := Lib.hid (show (Value.slice A3 (n2 + 1) c3).ownBlock ≠ some (wr.heap.size + 1) from own_ne_vr O2.out V3.out (by decide))
        clear g1 g2 g3 g4 g5 O2a V H1 H2 hBX hXw
        obtain ⟨v1, v2, v3⟩ := V3.out.facts
        have hl10 : w.heap.size < wr.heap.size + 1 := by omega
        by_cases hin : i < n
        · obtain ⟨b0, o0, hl0, rfl, hb0, z0, z1, z2⟩ := (RD.out.below hB3 (Nat.le_refl _)).openRow hin
          obtain ⟨⟨la, lb, lc⟩, hll⟩ : ∃ x, last[i] = x := ⟨_, rfl⟩
          have HR' := Lib.hid (show resV r last i = (la, lb, 0) from by rw [HR.out, List.getD_eq_getElem?_getD, List.getElem?_eq_getElem hl0, hll]; rfl)
          rw [hll] at z0 z1 z2
          clear hll HR
          have HR := HR'
          clear HR'
          have hne : ¬ b0 = wr.heap.size + 1 := by omega
          have hne' : ¬ wr.heap.size + 1 = b0 := by omega
          have hd : decide ((i : Int) < (n : Int)) = true := by simp; omega
          go_upto_region 12 with (fail)
          refine name_world ?_
          intro X hX
          have V := Lib.hid (show Vr X (wr.heap.size + 1) 25 #[.int .i64 la, .int .i64 lb, .int .i64 lc] from by rw [hX]; simpa using (((((V3.out.set 0 (.int .i64 0)).set 1 (.int .i64 0)).set 2 (.int .i64 0)).set 0 (.int .i64 la)).set 1 (.int .i64 lb)).set 2 (.int .i64 lc))
          have OX : Only (· = wr.heap.size + 1) w3 X := by rw [hX]; exact o_set (o_set (o_set (o_set (o_set (o_set (Only.refl _ _) _ _) _ _) _ _) _ _) _ _) _ _
          have hOX := OX.size
          clear hX z0 z1 z2 v1 v2 v3
          have O1 := Lib.hid (own_only O1.out OX HL1.out)
          have O2 := Lib.hid (own_only O2.out OX HL2.out)
          have hB3 : Below w.heap.size w X := Only.below ((Only.of_below hB3 (· = wr.heap.size + 1) (fun k h1 h2 => by omega)).trans OX) (Nat.le_refl _) (by rintro k rfl; omega)
          clear OX V3
          have z0 : X.cell? ⟨wr.heap.size + 1, 0, none⟩ = some (.int .i64 la) := V.out.cell 0
          have z1 : X.cell? ⟨wr.heap.size + 1, 1, none⟩ = some (.int .i64 lb) := V.out.cell 1
          have z2 : X.cell? ⟨wr.heap.size + 1, 2, none⟩ = some (.int .i64 lc) := V.out.cell 2
          go_wp2_with fail
          refine (predict3 la lb lc _).mono ?_
          rintro e w6 ⟨rfl, hb6⟩
          have y0 := cell_keep hb6 z0
          have y1 := cell_keep hb6 z1
          have y2 := cell_keep hb6 z2
          have f6 := (V.out.call hb6).frozen
          have V6 := Lib.hid (V.out.call hb6)
          have hz6 := V6.out.lt
          clear z0 z1 z2
          go_upto_region 13 with (fail)
          refine name_world ?_
          intro Y hY
          have V := Lib.hid (show Vr Y (wr.heap.size + 1) 25 #[.int .i64 la, .int .i64 lb, .int .i64 0] from by rw [hY]; simpa using ((V6.out.set 0 (.int .i64 la)).set 1 (.int .i64 lb)).set 2 (.int .i64 0))
          have OY : Only (· = wr.heap.size + 1) X Y := by rw [hY]; exact o_set (o_set (o_set (Only.of_below hb6 _ (fun k h1 h2 => by omega)) _ _) _ _) _ _
          clear hY y0 y1 y2 f6 V6
          have O1 := Lib.hid (own_only O1.out OY HL1.out)
          have O2 := Lib.hid (own_only O2.out OY HL2.out)
          have hBw : Below w.heap.size w Y := Only.below ((Only.of_below hB3 (· = wr.heap.size + 1) (fun k h1 h2 => by omega)).trans OY) (Nat.le_refl _) (by rintro k rfl; omega)
          have z0 : Y.cell? ⟨wr.heap.size + 1, 0, none⟩ = some (.int .i64 la) := V.out.cell 0
          have z1 : Y.cell? ⟨wr.heap.size + 1, 1, none⟩ = some (.int .i64 lb) := V.out.cell 1
          have z2 : Y.cell? ⟨wr.heap.size + 1, 2, none⟩ = some (.int .i64 0) := V.out.cell 2
          have hXw := hBw.size
          go_wp2_with (at_builtin; refine wpList_app _ rfl (.tmp 45) (.tmp 47) slRow rfl rfl (own_below O1.out (by (repeat (first | (with_reducible exact Below.refl _ _) | (with_reducible assumption) | (with_reducible refine b_drew ?_) | (with_reducible refine b_drewN ?_ _) | (with_reducible refine b_alloc ?_ _) | ((with_reducible refine b_set ?_ ?_ _); rotate_left; (focus (first | omega | (simp; done) | (simp; omega) | (simp at *; omega)))) | (with_reducible refine b_call ?_ (by with_reducible assumption)))))) rfl (rd_lit _ _ _ rfl rfl) (by intro u hu; simp at hu; rcases hu with rfl | rfl | rfl <;> rfl) (i + 1) rfl (by unfold maxLen; omega) (by omega) (by simp; omega) ?_; intro A5 c5 w5 g1 g2 g3 g4 g5)
          have hA := own_apart (own_below O2.out (b_alloc (Below.refl Y.heap.size Y) (.cells #[.int .i64 la, .int .i64 lb, .int .i64 0] 25))) (own_below O1.out (b_alloc (Below.refl Y.heap.size Y) _)) (by decide)
          go_roundw
          case rel => exact ⟨i + 1, A5, c5, A3, (n2 + 1), c3, by omega, by go_num, rfl, rfl, by omega, HF3, Lib.hid (by rw [HS.out, flat_append, HR.out, flat_one]; exact g3), Lib.hid ((own_below O2.out (by (repeat (first | (with_reducible exact Below.refl _ _) | (with_reducible assumption) | (with_reducible refine b_drew ?_) | (with_reducible refine b_drewN ?_ _) | (with_reducible refine b_alloc ?_ _) | ((with_reducible refine b_set ?_ ?_ _); rotate_left; (focus (first | omega | (simp; done) | (simp; omega) | (simp at *; omega)))) | (with_reducible refine b_call ?_ (by with_reducible assumption)))))).kept g4 hA), below_app (b_alloc hBw _) (own_below O1.out (by (repeat (first | (with_reducible exact Below.refl _ _) | (with_reducible assumption) | (with_reducible refine b_drew ?_) | (with_reducible refine b_drewN ?_ _) | (with_reducible refine b_alloc ?_ _) | ((with_reducible refine b_set ?_ ?_ _); rotate_left; (focus (first | omega | (simp; done) | (simp; omega) | (simp at *; omega)))) | (with_reducible refine b_call ?_ (by with_reducible assumption)))))) g4 (Nat.le_refl _) (by simp; omega)⟩
          case measure => simp [intOf]; omega
        · have HR' := Lib.hid (show resV r last i = (0, 0, 0) from by rw [HR.out, List.getD_eq_getElem?_getD, List.getElem?_eq_none (by rw [HN.out]; omega)]; rfl)
          clear HR
          have HR := HR'
          clear HR'
          have hd : decide ((i : Int) < (n : Int)) = false := by simp; omega
          go_upto_region 12 with (fail)
          refine name_world ?_
          intro X hX
          have V := Lib.hid (show Vr X (wr.heap.size + 1) 25 #[.int .i64 0, .int .i64 0, .int .i64 0] from by rw [hX]; simpa using ((V3.out.set 0 (.int .i64 0)).set 1 (.int .i64 0)).set 2 (.int .i64 0))
          have OX : Only (· = wr.heap.size + 1) w3 X := by rw [hX]; exact o_set (o_set (o_set (Only.refl _ _) _ _) _ _) _ _
          have hOX := OX.size
          clear hX v1 v2 v3
          have O1 := Lib.hid (own_only O1.out OX HL1.out)
          have O2 := Lib.hid (own_only O2.out OX HL2.out)
          have hB3 : Below w.heap.size w X := Only.below ((Only.of_below hB3 (· = wr.heap.size + 1) (fun k h1 h2 => by omega)).trans OX) (Nat.le_refl _) (by rintro k rfl; omega)
          clear OX V3
          have z0 : X.cell? ⟨wr.heap.size + 1, 0, none⟩ = some (.int .i64 0) := V.out.cell 0
          have z1 : X.cell? ⟨wr.heap.size + 1, 1, none⟩ = some (.int .i64 0) := V.out.cell 1
          have z2 : X.cell? ⟨wr.heap.size + 1, 2, none⟩ = some (.int .i64 0) := V.out.cell 2
          go_wp2_with fail
          refine (predict3 0 0 0 _).mono ?_
          rintro e w6 ⟨rfl, hb6⟩
          have y0 := cell_keep hb6 z0
          have y1 := cell_keep hb6 z1
          have y2 := cell_keep hb6 z2
          have f6 := (V.out.call hb6).frozen
          have V6 := Lib.hid (V.out.call hb6)
          have hz6 := V6.out.lt
          clear z0 z1 z2
          go_upto_region 13 with (fail)
          refine name_world ?_
          intro Y hY
          have V := Lib.hid (show Vr Y (wr.heap.size + 1) 25 #[.int .i64 0, .int .i64 0, .int .i64 0] from by rw [hY]; simpa using ((V6.out.set 0 (.int .i64 0)).set 1 (.int .i64 0)).set 2 (.int .i64 0))
          have OY : Only (· = wr.heap.size + 1) X Y := by rw [hY]; exact o_set (o_set (o_set (Only.of_below hb6 _ (fun k h1 h2 => by omega)) _ _) _ _) _ _
          clear hY y0 y1 y2 f6 V6
          have O1 := Lib.hid (own_only O1.out OY HL1.out)
          have O2 := Lib.hid (own_only O2.out OY HL2.out)
          have hBw : Below w.heap.size w Y := Only.below ((Only.of_below hB3 (· = wr.heap.size + 1) (fun k h1 h2 => by omega)).trans OY) (Nat.le_refl _) (by rintro k rfl; omega)
          have z0 : Y.cell? ⟨wr.heap.size + 1, 0, none⟩ = some (.int .i64 0) := V.out.cell 0
          have z1 : Y.cell? ⟨wr.heap.size + 1, 1, none⟩ = some (.int .i64 0) := V.out.cell 1
          have z2 : Y.cell? ⟨wr.heap.size + 1, 2, none⟩ = some (.int .i64 0) := V.out.cell 2
          have hXw := hBw.size
          go_wp2_with (at_builtin; refine wpList_app _ rfl (.tmp 45) (.tmp 47) slRow rfl rfl (own_below O1.out (by (repeat (first | (with_reducible exact Below.refl _ _) | (with_reducible assumption) | (with_reducible refine b_drew ?_) | (with_reducible refine b_drewN ?_ _) | (with_reducible refine b_alloc ?_ _) | ((with_reducible refine b_set ?_ ?_ _); rotate_left; (focus (first | omega | (simp; done) | (simp; omega) | (simp at *; omega)))) | (with_reducible refine b_call ?_ (by with_reducible assumption)))))) rfl (rd_lit _ _ _ rfl rfl) (by intro u hu; simp at hu; rcases hu with rfl | rfl | rfl <;> rfl) (i + 1) rfl (by unfold maxLen; omega) (by omega) (by simp; omega) ?_; intro A5 c5 w5 g1 g2 g3 g4 g5)
          have hA := own_apart (own_below O2.out (b_alloc (Below.refl Y.heap.size Y) (.cells #[.int .i64 0, .int .i64 0, .int .i64 0] 25))) (own_below O1.out (b_alloc (Below.refl Y.heap.size Y) _)) (by decide)
          go_roundw
          case rel => exact ⟨i + 1, A5, c5, A3, (n2 + 1), c3, by omega, by go_num, rfl, rfl, by omega, HF3, Lib.hid (by rw [HS.out, flat_append, HR.out, flat_one]; exact g3), Lib.hid ((own_below O2.out (by (repeat (first | (with_reducible exact Below.refl _ _) | (with_reducible assumption) | (with_reducible refine b_drew ?_) | (with_reducible refine b_drewN ?_ _) | (with_reducible refine b_alloc ?_ _) | ((with_reducible refine b_set ?_ ?_ _); rotate_left; (focus (first | omega | (simp; done) | (simp; omega) | (simp at *; omega)))) | (with_reducible refine b_call ?_ (by with_reducible assumption)))))).kept g4 hA), below_app (b_alloc hBw _) (own_below O1.out (by (repeat (first | (with_reducible exact Below.refl _ _) | (with_reducible assumption) | (with_reducible refine b_drew ?_) | (with_reducible refine b_drewN ?_ _) | (with_reducible refine b_alloc ?_ _) | ((with_reducible refine b_set ?_ ?_ _); rotate_left; (focus (first | omega | (simp; done) | (simp; omega) | (simp at *; omega)))) | (with_reducible refine b_call ?_ (by with_reducible assumption)))))) g4 (Nat.le_refl _) (by simp; omega)⟩
          case measure => simp [intOf]; omega
      · have HR := Lib.hid (show resV r last i = (ia, ib, ic) from by unfold resV; rw [hr, hii]; rfl)
        have HG := Lib.hid (resF_yes hr)
        rw [hr] at y1
        clear hr hii
        go_upto_region 13 with (fail)
        refine name_world ?_
        intro X hX
        have hBX : Below wr.heap.size wr X := by rw [hX]; (repeat (first | (with_reducible exact Below.refl _ _) | (with_reducible assumption) | (with_reducible refine b_drew ?_) | (with_reducible refine b_drewN ?_ _) | (with_reducible refine b_alloc ?_ _) | ((with_reducible refine b_set ?_ ?_ _); rotate_left; (focus (first | omega | (simp; done) | (simp; omega) | (simp at *; omega)))) | (with_reducible refine b_call ?_ (by with_reducible assumption))))
        have V := Lib.hid (show Vr X (wr.heap.size + 1) 25 #[.int .i64 ia, .int .i64 ib, .int .i64 ic] from by rw [hX]; exact vr_new1 wr _ _ _)
        clear hX y0 y1 y2 y3 y4 y5
        have O1 := Lib.hid (own_below H1.out hBX)
        have O2 := Lib.hid (show X.ownsRow w.heap.size 3 1 (.slice A2 n2 c2) n2 ((resF r (i + 1)).map (Value.int .i64)) from by rw [HG.out]; exact own_below H2.out hBX)
        have hBw : Below w.heap.size w X := b_call hB hBX
        have z0 : X.cell? ⟨wr.heap.size + 1, 0, none⟩ = some (.int .i64 ia) := V.out.cell 0
        have z1 : X.cell? ⟨wr.heap.size + 1, 1, none⟩ = some (.int .i64 ib) := V.out.cell 1
        have z2 : X.cell? ⟨wr.heap.size + 1, 2, none⟩ = some (.int .i64 ic) := V.out.cell 2
        have hXw := hBw.size
        go_wp2_with (at_builtin; refine wpList_app _ rfl (.tmp 45) (.tmp 47) slRow rfl rfl (own_below O1.out (by (repeat (first | (with_reducible exact Below.refl _ _) | (with_reducible assumption) | (with_reducible refine b_drew ?_) | (with_reducible refine b_drewN ?_ _) | (with_reducible refine b_alloc ?_ _) | ((with_reducible refine b_set ?_ ?_ _); rotate_left; (focus (first | omega | (simp; done) | (simp; omega) | (simp at *; omega)))) | (with_reducible refine b_call ?_ (by with_reducible assumption)))))) rfl (rd_lit _ _ _ rfl rfl) (by intro u hu; simp at hu; rcases hu with rfl | rfl | rfl <;> rfl) (i + 1) rfl (by unfold maxLen; omega) (by omega) (by simp; omega) ?_; intro A5 c5 w5 g1 g2 g3 g4 g5)
        have hA := own_apart (own_below O2.out (b_alloc (Below.refl X.heap.size X) (.cells #[.int .i64 ia, .int .i64 ib, .int .i64 ic] 25))) (own_below O1.out (b_alloc (Below.refl X.heap.size X) _)) (by decide)
        go_roundw
        case rel => exact ⟨i + 1, A5, c5, A2, n2, c2, by omega, by go_num, rfl, rfl, by omega, Lib.hid (by rw [HG.out]; exact HF.out), Lib.hid (by rw [HS.out, flat_append, HR.out, flat_one]; exact g3), Lib.hid ((own_below O2.out (by (repeat (first | (with_reducible exact Below.refl _ _) | (with_reducible assumption) | (with_reducible refine b_drew ?_) | (with_reducible refine b_drewN ?_ _) | (with_reducible refine b_alloc ?_ _) | ((with_reducible refine b_set ?_ ?_ _); rotate_left; (focus (first | omega | (simp; done) | (simp; omega) | (simp at *; omega)))) | (with_reducible refine b_call ?_ (by with_reducible assumption)))))).kept g4 hA), below_app (b_alloc hBw _) (own_below O1.out (by (repeat (first | (with_reducible exact Below.refl _ _) | (with_reducible assumption) | (with_reducible refine b_drew ?_) | (with_reducible refine b_drewN ?_ _) | (with_reducible refine b_alloc ?_ _) | ((with_reducible refine b_set ?_ ?_ _); rotate_left; (focus (first | omega | (simp; done) | (simp; omega) | (simp at *; omega)))) | (with_reducible refine b_call ?_ (by with_reducible assumption)))))) g4 (Nat.le_refl _) (by simp; omega)⟩
        case measure => simp [intOf]; omega
    · obtain rfl : k = i := by omega
      go_wp2
      exact bodyPost_ret (v := .tuple #[.slice A1 k c1, .slice A2 n2 c2]) (by simp [results, Try.results19, go_sem]) rfl (by
        have e := HF.out
        subst e
        refine ⟨A1, c1, A2, c2, ?_, ?_, ?_, hB⟩
        · rw [HK.out]
        · rw [HK.out]; exact H1.out
        · rw [HK.out]; exact H2.out)
end Go.Proofs.Ytojmkfhinkmhaaa
