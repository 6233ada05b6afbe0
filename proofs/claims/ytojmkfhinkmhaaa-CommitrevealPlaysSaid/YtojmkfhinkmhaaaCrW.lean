/-
  WHAT IS PROVED HERE: the contract of the reference's Result. No condition but that the round lies in memory as stated.
-/
import Derived.Test.YtojmkfhinkmhaaaCrV
import Derived.Deep.Onto
namespace Go.Proofs.Ytojmkfhinkmhaaa
set_option linter.unusedVariables false
open Go.ChangeShapes Go.WideShapes Go.ChangeAt Go.RowKit

set_option maxHeartbeats 400000 in
theorem refpredict3 (a b c : Int) (w : World) :
    Calls Try.prog 50 #[.agg #[.int .i64 a, .int .i64 b, .int .i64 c]] w fun e w' => e = .returned (.agg #[.int .i64 a, .int .i64 b, .int .i64 0]) ∧ Below w.heap.size w w' := by
  go_enter Try.func50, Try.ntmps50
  go_wp2
  exact bodyPost_ret (v := .agg #[.int .i64 a, .int .i64 b, .int .i64 0]) (by simp [results, Try.results50, go_sem]) rfl ⟨rfl, by (repeat (first | (with_reducible exact Below.refl _ _) | (with_reducible assumption) | (with_reducible refine b_drew ?_) | (with_reducible refine b_drewN ?_ _) | (with_reducible refine b_alloc ?_ _) | ((with_reducible refine b_set ?_ ?_ _); rotate_left; (focus (first | omega | (simp; done) | (simp; omega) | (simp at *; omega)))) | (with_reducible refine b_call ?_ (by with_reducible assumption))))⟩
set_option maxRecDepth 100000 in
set_option maxHeartbeats 4000000 in
theorem refresult_any (A : Option Addr) (k c : Nat) (t : Int) (o : Bool) (f : Nat → StV) (A3 : Option Addr) (n c3 : Nat) (last : List Inp) (w : World) (rd : Rd w w.heap.size 6 A k (onesC f k)) (hk : k ≤ 8) (rd3 : Rd w w.heap.size 3 A3 n (flat last)) :
    Calls Try.prog 32 #[.agg #[.int .i64 t, .slice A k c, .bool o], .slice A3 n c3] w (RetRes w ⟨k, t, o, f⟩ last) := by
  have RD := Lib.hid rd
  have R3 := Lib.hid rd3
  have HN := Lib.hid (show last.length = n from by have := rd3.1; rw [flat_length] at this; omega)
  clear rd rd3
  go_enter Try.func32, Try.ntmps32
  go_wp2
  refine name_world ?_
  intro X hX
  have V0 := Lib.hid (show Vr X w.heap.size 56 #[.int .i64 t, .slice A k c, .bool o] from by rw [hX]; exact Vr.new w _ _)
  have HBX : Below w.heap.size w X := by rw [hX]; (repeat (first | (with_reducible exact Below.refl _ _) | (with_reducible assumption) | (with_reducible refine b_drew ?_) | (with_reducible refine b_drewN ?_ _) | (with_reducible refine b_alloc ?_ _) | ((with_reducible refine b_set ?_ ?_ _); rotate_left; (focus (first | omega | (simp; done) | (simp; omega) | (simp at *; omega)))) | (with_reducible refine b_call ?_ (by with_reducible assumption))))
  have hXz := V0.out.lt
  clear hX
  go_loopw [6, 7, 8] (fun s6 s7 s8 wr => ∃ (i : Nat) (A1 : Option Addr) (c1 : Nat) (A2 : Option Addr) (n2 c2 : Nat), i ≤ k ∧ s8 = .int .i64 i ∧ s6 = .slice A1 i c1 ∧ s7 = .slice A2 n2 c2 ∧ n2 ≤ i ∧ Hid (n2 = (resF ⟨k, t, o, f⟩ i).length) ∧ Hid (wr.ownsRow X.heap.size 25 3 (.slice A1 i c1) i (flat (resL ⟨k, t, o, f⟩ last i))) ∧ Hid (wr.ownsRow X.heap.size 3 1 (.slice A2 n2 c2) n2 ((resF ⟨k, t, o, f⟩ i).map (Value.int .i64))) ∧ Below X.heap.size X wr) (fun _ _ s8 _ => k - (intOf s8).toNat)
  case atStart => exact ⟨0, none, 0, none, 0, 0, by omega, rfl, rfl, rfl, Nat.le_refl _, rfl, Lib.hid (own_nil _ _ _ _), Lib.hid (own_nil _ _ _ _), Below.refl _ _⟩
  case round =>
    obtain ⟨i, A1, c1, A2, n2, c2, hi, rfl, rfl, rfl, hn2, HF, H1, H2, hB⟩ := hrel
    have V0r := Lib.hid (V0.out.call hB)
    have x1 : wr.cell? ⟨w.heap.size, 1, none⟩ = some (.slice A k c) := V0r.out.cell 1
    by_cases hlt : i < k
    · have hBw : Below w.heap.size w wr := b_call HBX hB
      obtain ⟨b0, o0, rfl, hb0, hcell⟩ := refr_len (RD.out.below hBw (Nat.le_refl _)) hlt
      have z2 := hcell 2 _ (by omega) rfl
      have z3 := hcell 3 _ (by omega) rfl
      have z4 := hcell 4 _ (by omega) rfl
      have z5 := hcell 5 _ (by omega) rfl
      simp only [← Nat.add_assoc] at z2 z3 z4 z5
      have HS := Lib.hid (resL_succ ⟨k, t, o, f⟩ last i)
      have k1 : (0 : Int) ≤ (i : Int) := by omega
      have k2 : (i : Int) < (k : Int) := by omega
      have d1 : decide (i < k) = true := decide_eq_true hlt
      have hsz := hB.size
      obtain ⟨⟨ia, ib, ic⟩, hii⟩ : ∃ x, (f i).i = x := ⟨_, rfl⟩
      rw [hii] at z3 z4 z5
      simp only at z3 z4 z5
      clear hcell
      rcases hr : (f i).r with _ | _
      · have HR := Lib.hid (show resV ⟨k, t, o, f⟩ last i = pred (last.getD i (0, 0, 0)) from by unfold resV; simp only [hr]; rfl)
        have HG := Lib.hid (resF_no (r := ⟨k, t, o, f⟩) hr)
        rw [hr] at z2
        clear hr hii
        obtain ⟨⟨la, lb, lc⟩, hlk⟩ : ∃ x, last.getD i (0, 0, 0) = x := ⟨_, rfl⟩
        rw [hlk] at HR
        have HLK := Lib.hid hlk
        clear hlk
        go_upto_if 36 with fail
        refine name_world ?_
        intro Y hY
        have V9 := Lib.hid (show Vr Y wr.heap.size 25 #[.int .i64 0, .int .i64 0, .int .i64 0] from by rw [hY]; exact Vr.new wr _ _)
        have HBY : Below wr.heap.size wr Y := by rw [hY]; (repeat (first | (with_reducible exact Below.refl _ _) | (with_reducible assumption) | (with_reducible refine b_drew ?_) | (with_reducible refine b_drewN ?_ _) | (with_reducible refine b_alloc ?_ _) | ((with_reducible refine b_set ?_ ?_ _); rotate_left; (focus (first | omega | (simp; done) | (simp; omega) | (simp at *; omega)))) | (with_reducible refine b_call ?_ (by with_reducible assumption))))
        obtain ⟨v1, v2, v3⟩ := V9.out.facts
        clear hY z2 z3 z4 z5 x1
        go_cut [] from 37 to 41 (fun wx => Hid (Vr wx wr.heap.size 25 #[.int .i64 la, .int .i64 lb, .int .i64 lc]) ∧ Below wr.heap.size wr wx)
        case first =>
          by_cases hin : i < n
          · obtain ⟨b7, o7, hl7, rfl, hb7, z0, z1, z2⟩ := (R3.out.below (b_call hBw HBY) (Nat.le_refl _)).openRow (k := i) hin
            have hkk : last[i]'hl7 = (la, lb, lc) := by
              have := HLK.out
              rw [List.getD_eq_getElem?_getD, List.getElem?_eq_getElem hl7] at this
              exact this
            rw [hkk] at z0 z1 z2
            simp only at z0 z1 z2
            have hd : decide ((i : Int) < (n : Int)) = true := by simp; omega
            have hsz2 := hBw.size
            have hne : ¬ wr.heap.size = b7 := by omega
            have hne' : ¬ b7 = wr.heap.size := by omega
            clear hkk
            go_wp2
            go_meet
            case rel => exact ⟨Lib.hid (by simpa using ((V9.out.set 0 (.int .i64 la)).set 1 (.int .i64 lb)).set 2 (.int .i64 lc)), b_set (b_set (b_set HBY (Nat.le_refl _) _) (Nat.le_refl _) _) (Nat.le_refl _) _⟩
          · have hd : decide ((i : Int) < (n : Int)) = false := by simp; omega
            have HZ := Lib.hid (show (0, 0, 0) = (la, lb, lc) from by
              have := HLK.out
              rw [List.getD_eq_getElem?_getD, List.getElem?_eq_none (by rw [HN.out]; omega)] at this
              exact this)
            go_wp2
            go_meet
            case rel => exact ⟨Lib.hid (by have e := HZ.out; injection e with e1 e2; injection e2 with e2 e3; subst e1 e2 e3; exact V9.out), HBY⟩
        case' rest =>
          clear V9 HBY v1 v2 v3
        obtain ⟨V9, HBY⟩ := hcut
        obtain ⟨Z, rfl⟩ : ∃ W : World, W = wc := ⟨_, rfl⟩
        have y0 : Z.cell? ⟨wr.heap.size, 0, none⟩ = some (.int .i64 la) := V9.out.cell 0
        have y1 : Z.cell? ⟨wr.heap.size, 1, none⟩ = some (.int .i64 lb) := V9.out.cell 1
        have y2 : Z.cell? ⟨wr.heap.size, 2, none⟩ = some (.int .i64 lc) := V9.out.cell 2
        go_wp2_with fail
        refine (refpredict3 la lb lc _).mono ?_
        rintro e w6 ⟨rfl, hb6⟩
        have HB6 := b_call HBY hb6
        have hz6 := HB6.size
        have O1 := Lib.hid (own_below H1.out HB6)
        have O2 := Lib.hid (own_below H2.out HB6)
        clear y0 y1 y2 V9 HBY hb6
        go_upto_region 12 with (at_builtin; refine wpList_app _ rfl (.tmp 41) (.tmp 44) slRow rfl rfl (own_below O1.out (by (repeat (first | (with_reducible exact Below.refl _ _) | (with_reducible assumption) | (with_reducible refine b_drew ?_) | (with_reducible refine b_drewN ?_ _) | (with_reducible refine b_alloc ?_ _) | ((with_reducible refine b_set ?_ ?_ _); rotate_left; (focus (first | omega | (simp; done) | (simp; omega) | (simp at *; omega)))) | (with_reducible refine b_call ?_ (by with_reducible assumption)))))) rfl (rd_lit _ _ _ rfl rfl) (by intro u hu; simp at hu; rcases hu with rfl | rfl | rfl <;> rfl) (i + 1) rfl (by unfold maxLen; omega) (by omega) (by simp; omega) ?_; intro A5 c5 w7 g1 g2 g3 g4 g5)
        have hA := own_apart (own_below O2.out (b_alloc (Below.refl w6.heap.size w6) (.cells #[.int .i64 la, .int .i64 lb, .int .i64 0] 25))) (own_below O1.out (b_alloc (Below.refl w6.heap.size w6) _)) (by decide)
        have P2 := Lib.hid ((own_below O2.out (b_alloc (Below.refl w6.heap.size w6) _)).kept g4 hA)
        have P1 := Lib.hid (show w7.ownsRow X.heap.size 25 3 (.slice A5 (i + 1) c5) (i + 1) (flat (resL ⟨k, t, o, f⟩ last (i + 1))) from by rw [HS.out, flat_append, HR.out, flat_one]; exact g3)
        have HB7 : Below X.heap.size X w7 := below_app (b_alloc (b_call hB HB6) _) (own_below O1.out (b_alloc (Below.refl _ _) _)) g4 (Nat.le_refl _) (by simp; omega)
        have hz7 := HB7.size
        clear g1 g2 g3 g4 g5 hA O1 O2
        go_wp2_with (at_builtin; refine wpList_app _ rfl (.tmp 46) (.tmp 48) slInts rfl rfl (own_below P2.out (by (repeat (first | (with_reducible exact Below.refl _ _) | (with_reducible assumption) | (with_reducible refine b_drew ?_) | (with_reducible refine b_drewN ?_ _) | (with_reducible refine b_alloc ?_ _) | ((with_reducible refine b_set ?_ ?_ _); rotate_left; (focus (first | omega | (simp; done) | (simp; omega) | (simp at *; omega)))) | (with_reducible refine b_call ?_ (by with_reducible assumption)))))) rfl (rd_lit _ _ _ rfl rfl) (by intro u hu; simp at hu; subst hu; rfl) (n2 + 1) rfl (by unfold maxLen; omega) (by omega) (by simp; omega) ?_; intro A6 c6 w8 g1 g2 g3 g4 g5)
        have hA := own_apart (own_below P1.out (b_alloc (Below.refl w7.heap.size w7) (.cells #[.int .i64 i] 3))) (own_below P2.out (b_alloc (Below.refl w7.heap.size w7) _)) (by decide)
        go_roundw
        case rel => exact ⟨i + 1, A5, c5, A6, n2 + 1, c6, by omega, by go_num, rfl, rfl, by omega, Lib.hid (by rw [HG.out, List.length_append, ← HF.out]; rfl), Lib.hid ((own_below P1.out (by (repeat (first | (with_reducible exact Below.refl _ _) | (with_reducible assumption) | (with_reducible refine b_drew ?_) | (with_reducible refine b_drewN ?_ _) | (with_reducible refine b_alloc ?_ _) | ((with_reducible refine b_set ?_ ?_ _); rotate_left; (focus (first | omega | (simp; done) | (simp; omega) | (simp at *; omega)))) | (with_reducible refine b_call ?_ (by with_reducible assumption)))))).kept g4 hA), Lib.hid (by rw [HG.out, List.map_append]; exact g3), below_app (b_alloc HB7 _) (own_below P2.out (by (repeat (first | (with_reducible exact Below.refl _ _) | (with_reducible assumption) | (with_reducible refine b_drew ?_) | (with_reducible refine b_drewN ?_ _) | (with_reducible refine b_alloc ?_ _) | ((with_reducible refine b_set ?_ ?_ _); rotate_left; (focus (first | omega | (simp; done) | (simp; omega) | (simp at *; omega)))) | (with_reducible refine b_call ?_ (by with_reducible assumption)))))) g4 (Nat.le_refl _) (by simp; omega)⟩
        case measure => simp [intOf]; omega
      · have HR := Lib.hid (show resV ⟨k, t, o, f⟩ last i = (ia, ib, ic) from by unfold resV; simp only [hr, hii]; rfl)
        have HG := Lib.hid (resF_yes (r := ⟨k, t, o, f⟩) hr)
        rw [hr] at z2
        clear hr hii
        go_wp2_with (at_builtin; refine wpList_app _ rfl (.tmp 23) (.tmp 30) slRow rfl rfl (own_below H1.out (by (repeat (first | (with_reducible exact Below.refl _ _) | (with_reducible assumption) | (with_reducible refine b_drew ?_) | (with_reducible refine b_drewN ?_ _) | (with_reducible refine b_alloc ?_ _) | ((with_reducible refine b_set ?_ ?_ _); rotate_left; (focus (first | omega | (simp; done) | (simp; omega) | (simp at *; omega)))) | (with_reducible refine b_call ?_ (by with_reducible assumption)))))) rfl (rd_lit _ _ _ rfl rfl) (by intro u hu; simp at hu; rcases hu with rfl | rfl | rfl <;> rfl) (i + 1) rfl (by unfold maxLen; omega) (by omega) (by simp; omega) ?_; intro A5 c5 w5 g1 g2 g3 g4 g5)
        have hA := own_apart (own_below H2.out (b_alloc (Below.refl wr.heap.size wr) (.cells #[.int .i64 ia, .int .i64 ib, .int .i64 ic] 25))) (own_below H1.out (b_alloc (Below.refl wr.heap.size wr) _)) (by decide)
        go_roundw
        case rel => exact ⟨i + 1, A5, c5, A2, n2, c2, by omega, by go_num, rfl, rfl, by omega, Lib.hid (by rw [HG.out]; exact HF.out), Lib.hid (by rw [HS.out, flat_append, HR.out, flat_one]; exact g3), Lib.hid (by rw [HG.out]; exact (own_below H2.out (by (repeat (first | (with_reducible exact Below.refl _ _) | (with_reducible assumption) | (with_reducible refine b_drew ?_) | (with_reducible refine b_drewN ?_ _) | (with_reducible refine b_alloc ?_ _) | ((with_reducible refine b_set ?_ ?_ _); rotate_left; (focus (first | omega | (simp; done) | (simp; omega) | (simp at *; omega)))) | (with_reducible refine b_call ?_ (by with_reducible assumption)))))).kept g4 hA), below_app (b_alloc hB _) (own_below H1.out (by (repeat (first | (with_reducible exact Below.refl _ _) | (with_reducible assumption) | (with_reducible refine b_drew ?_) | (with_reducible refine b_drewN ?_ _) | (with_reducible refine b_alloc ?_ _) | ((with_reducible refine b_set ?_ ?_ _); rotate_left; (focus (first | omega | (simp; done) | (simp; omega) | (simp at *; omega)))) | (with_reducible refine b_call ?_ (by with_reducible assumption)))))) g4 (Nat.le_refl _) (by simp; omega)⟩
        case measure => simp [intOf]; omega
    · obtain rfl : k = i := by omega
      have d1 : decide (k < k) = false := decide_eq_false hlt
      go_wp2
      exact bodyPost_ret (v := .tuple #[.slice A1 k c1, .slice A2 n2 c2]) (by simp [results, Try.results32, go_sem]) rfl (by
        have e := HF.out
        subst e
        exact ⟨A1, c1, A2, c2, rfl, World.ownsRow.mono H1.out HBX.size, World.ownsRow.mono H2.out HBX.size, b_call HBX hB⟩)
end Go.Proofs.Ytojmkfhinkmhaaa
