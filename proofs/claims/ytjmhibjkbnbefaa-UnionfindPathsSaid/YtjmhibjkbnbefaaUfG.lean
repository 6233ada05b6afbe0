/-
  WHAT IS PROVED HERE: the contracts of Islands, of the program and of the reference, of the laws' helpers size, merged and lives. No condition but bounds that every machine's lengths meet.
-/
import Derived.Test.YtjmhibjkbnbefaaUfF
namespace Go.Proofs.Ytjmhibjkbnbefaa
set_option linter.unusedVariables false
open Go.ChangeShapes Go.WideShapes Go.ChangeAt Go.RowKit

theorem rd_lit2 (w : World) (cs : Array Value) (e : TypeId) {N sz m : Nat} {xs : List Value} (hN : w.heap.size = N) (h : cs.size = m * sz) (hx : cs.toList = xs) : Rd (w.alloc (.cells cs e)) (w.alloc (.cells cs e)).heap.size sz (some ⟨N, 0, none⟩) m xs := by
  subst hN
  exact rd_lit w cs e h hx
def idU : Nat → Nat := fun i => i
/-- The edges' numbers are a machine's. -/
def EdgeBd (E : List (Int × Int)) : Prop := ∀ e ∈ E, (-9223372036854775808 ≤ e.1 ∧ e.1 ≤ 9223372036854775807) ∧ (-9223372036854775808 ≤ e.2 ∧ e.2 ≤ 9223372036854775807)
theorem fold_take {n : Nat} {f : Nat → Nat} {E : List (Int × Int)} {k : Nat} (h : k < E.length) : foldU n f (E.take (k + 1)) = uniF n (foldU n f (E.take k)) E[k].1 E[k].2 := by
  rw [List.take_succ_eq_append_getElem h, foldU_snoc]
theorem below_only {w a b : World} {g : Nat} (h : Below w.heap.size w a) (o : Only (· = g) a b) (hg : w.heap.size ≤ g) : Below w.heap.size w b :=
  h.trans (o.below h.size (by rintro k rfl; exact hg))

theorem size_any (n : Int) (w : World) (h1 : -9223372036854775808 ≤ n) (h2 : n ≤ 9223372036854775807) :
    Calls Try.prog 11 #[.int .i64 n] w fun e w' => e = .returned (.int .i64 (around n 15)) ∧ w = w' := by
  go_enter Try.func11, Try.ntmps11
  go_wp2_with fail
  refine (around_any n 15 _ h1 h2 (by omega) (by omega)).mono ?_
  rintro e w_ ⟨rfl, rfl⟩
  go_wp2
  go_ret
  exact ⟨rfl, rfl⟩

set_option maxHeartbeats 2000000 in
theorem islands_any (n : Nat) (A : Option Addr) (m c : Nat) (E : List (Int × Int)) (w : World) (hn : n ≤ 10000) (hm : m ≤ 1000000) (hE : EdgeBd E) (rd : Rd w w.heap.size 2 A m (flat2 E)) :
    Calls Try.prog 14 #[.int .i64 (n : Int), .slice A m c] w (RetRows w (groupsI (foldU n idU E) n)) := by
  have hlm : E.length = m := by have := rd.1; rw [flat2_length] at this; omega
  have RD := Lib.hid rd
  have HLM := Lib.hid hlm
  have HE := Lib.hid hE
  clear rd hlm hE
  go_enter Try.func14, Try.ntmps14
  go_wp2_with fail
  refine (ufnew_any n _ hn).mono ?_
  rintro e w1 ⟨p, g, rfl, hp, hg, U1, hb1⟩
  have U1 := Lib.hid U1
  go_wp2
  go_loopw [12] (fun i wr => ∃ k : Nat, k ≤ m ∧ i = .int .i64 k ∧ Hid (Ufs wr p g n (foldU n idU (E.take k))) ∧ Below w.heap.size w wr) (fun i _ => m - (intOf i).toNat)
  case atStart => exact ⟨0, by omega, rfl, U1, hb1⟩
  case round =>
    obtain ⟨k, hk, rfl, HU, hB⟩ := hrel
    by_cases hlt : k < m
    · obtain ⟨b, o, hl, rfl, hb, hc0, hc1⟩ := (RD.out.below hB (Nat.le_refl _)).openEdge hlt
      have EF := Lib.hid (fold_take (n := n) (f := idU) hl)
      have hbd := HE.out _ (List.getElem_mem hl)
      obtain ⟨⟨x, y⟩, hx⟩ : ∃ x, E[k] = x := ⟨_, rfl⟩
      rw [hx] at hc0 hc1 hbd EF
      clear hx
      obtain ⟨⟨bx1, bx2⟩, by1, by2⟩ := hbd
      go_wp2_with fail
      refine (ufunion_any p g n _ x y _ hn ⟨bx1, bx2⟩ ⟨by1, by2⟩ (HU.out.below (b_alloc (Below.refl _ _) _))).mono ?_
      rintro e w2 ⟨rfl, U2, O2⟩
      have U2 := Lib.hid U2
      go_wp2
      go_roundw
      case rel => exact ⟨k + 1, by omega, by go_num, Lib.hid (by rw [EF.out]; exact U2.out), below_only (b_alloc hB _) O2 hg⟩
      case measure => simp [intOf]; omega
    · obtain rfl : m = k := by omega
      have EF := Lib.hid (show E.take m = E from by rw [List.take_of_length_le (by rw [HLM.out]; omega)])
      go_wp2_with fail
      refine (ufgroups_any p g n _ _ hn HU.out).mono ?_
      rintro e w2 ⟨A2, c2, vs, rfl, hc2, hm2, own2, rows2, U2, O2⟩
      have HF := Lib.hid (And.intro own2 rows2)
      clear own2 rows2 U2
      rw [EF.out] at HF hc2
      rw [EF.out]
      go_wp2
      go_ret
      exact ⟨A2, c2, vs, rfl, hc2, hm2, own_mono HF.out.1 hB.size, HF.out.2.mono hB.size, below_only hB O2 hg⟩

set_option maxHeartbeats 2000000 in
theorem refislands_any (n : Nat) (A : Option Addr) (m c : Nat) (E : List (Int × Int)) (w : World) (hn : n ≤ 10000) (hm : m ≤ 1000000) (hE : EdgeBd E) (rd : Rd w w.heap.size 2 A m (flat2 E)) :
    Calls Try.prog 15 #[.int .i64 (n : Int), .slice A m c] w (RetRows w (groupsI (foldU n idU E) n)) := by
  have hlm : E.length = m := by have := rd.1; rw [flat2_length] at this; omega
  have RD := Lib.hid rd
  have HLM := Lib.hid hlm
  have HE := Lib.hid hE
  clear rd hlm hE
  go_enter Try.func15, Try.ntmps15
  go_wp2_with fail
  refine (refnew_any n _ hn).mono ?_
  rintro e w1 ⟨A1, c1, rfl, hc1, hm1, own1, hb1⟩
  have O1 := Lib.hid own1
  clear own1
  go_wp2
  go_loopw [5, 6] (fun s5 s6 wr => ∃ (k : Nat) (A1 : Option Addr) (c1 : Nat) (s : List Int), k ≤ m ∧ s6 = .int .i64 k ∧ s5 = .slice A1 n c1 ∧ Hid (s.length = n ∧ RelU s (foldU n idU (E.take k)) ∧ Rd wr wr.heap.size 1 A1 n (s.map (Value.int .i64))) ∧ Below w.heap.size w wr) (fun _ i _ => m - (intOf i).toNat)
  case atStart => exact ⟨0, A1, c1, newS n, by omega, rfl, rfl, Lib.hid ⟨newS_len n, rel_new n, rd_own O1.out⟩, hb1⟩
  case round =>
    obtain ⟨k, A2, c2, s, hk, rfl, rfl, HS, hB⟩ := hrel
    by_cases hlt : k < m
    · obtain ⟨b, o, hl, rfl, hb, hc0, hc1⟩ := (RD.out.below hB (Nat.le_refl _)).openEdge hlt
      have EF := Lib.hid (fold_take (n := n) (f := idU) hl)
      have hbd := HE.out _ (List.getElem_mem hl)
      obtain ⟨⟨x, y⟩, hx⟩ : ∃ x, E[k] = x := ⟨_, rfl⟩
      rw [hx] at hc0 hc1 hbd EF
      clear hx
      obtain ⟨⟨bx1, bx2⟩, by1, by2⟩ := hbd
      have hbw : b < wr.heap.size := by have := hB.size; omega
      go_wp2_with fail
      go_region_held3 (fun w' => (∀ b o, b < wr.heap.size → w'.cell? ⟨b, o, none⟩ = wr.cell? ⟨b, o, none⟩) ∧ Below wr.heap.size wr w') (first | exact still_call (by assumption) (by assumption) | exact still_drew0 _ | exact still_drew (by assumption) | exact still_alloc (by assumption) _ | exact still_of (by (repeat (first | (with_reducible exact Below.refl _ _) | (with_reducible assumption) | (with_reducible refine b_drew ?_) | (with_reducible refine b_drewN ?_ _) | (with_reducible refine b_alloc ?_ _) | ((with_reducible refine b_set ?_ ?_ _); rotate_left; (focus (first | omega | (simp; done) | (simp; omega) | (simp at *; omega)))) | (with_reducible refine b_call ?_ (by with_reducible assumption)))))) (first
        | (go_at_call 24; refine (refunion_any A2 n c2 s (foldU n idU (E.take k)) x y _ hn HS.out.1 HS.out.2.1 (rd_step HS.out.2.2 (by (repeat (first | (with_reducible exact Below.refl _ _) | (with_reducible assumption) | (with_reducible refine b_drew ?_) | (with_reducible refine b_drewN ?_ _) | (with_reducible refine b_alloc ?_ _) | ((with_reducible refine b_set ?_ ?_ _); rotate_left; (focus (first | omega | (simp; done) | (simp; omega) | (simp at *; omega)))) | (with_reducible refine b_call ?_ (by with_reducible assumption))))))).mono ?_; rintro e w5 ⟨A5, c5, rfl, rd5, hl5, hb5⟩; have RD5 := Lib.hid rd5; clear rd5))
      go_wp2
      go_roundw
      case rel => exact ⟨k + 1, A5, c5, uniS s x y, by omega, by go_num, rfl, Lib.hid ⟨by rw [uniS_len]; exact HS.out.1, by rw [EF.out]; have h := rel_uni HS.out.2.1 x y; rw [HS.out.1] at h; exact h, RD5.out⟩, hB.trans ((b_call (b_drew (Below.refl _ _)) hb5).mono hB.size)⟩
      case measure => simp [intOf]; omega
    · obtain rfl : m = k := by omega
      have EF := Lib.hid (show E.take m = E from by rw [List.take_of_length_le (by rw [HLM.out]; omega)])
      have HP := Lib.hid (foldU_part part_id n (E.take m))
      go_wp2_with fail
      refine (refgroups_any A2 n c2 s (foldU n idU (E.take m)) _ hn HS.out.1 HS.out.2.1 HP.out HS.out.2.2).mono ?_
      rintro e w2 ⟨A5, c5, vs, rfl, hc5, hm5, own5, rows5, hb5⟩
      have HF := Lib.hid (And.intro own5 rows5)
      clear own5 rows5
      rw [EF.out] at HF hc5
      rw [EF.out]
      go_wp2
      go_ret
      exact ⟨A5, c5, vs, rfl, hc5, hm5, own_mono HF.out.1 hB.size, HF.out.2.mono hB.size, b_call hB hb5⟩

theorem lives_groups : groupsI (foldU 5 idU [(0, 3), (3, 4)]) 5 = [[0, 3, 4], [1], [2]] := by decide
theorem rdrows_lit {w : World} {A : Option Addr} {vs : List Value} {rows : List (List Int)} {n : Nat} (hn : n = rows.length) (rd : Rd w w.heap.size 1 A n vs) (h : ∀ (i : Nat) (v : Value) (row : List Int), vs[i]? = some v → rows[i]? = some row → ∃ A' c', v = .slice A' row.length c' ∧ Rd w w.heap.size 1 A' row.length (row.map (Value.int .i64))) : RdRows w A n rows := ⟨hn, vs, rd, h⟩
set_option maxHeartbeats 1000000 in
theorem lives_any (w : World) : Calls Try.prog 16 #[] w fun e w' => e = .returned (.bool true) ∧ Below w.heap.size w w' := by
  have hg := lives_groups
  have HG := Lib.hid hg
  have hs : Small [[0, 3, 4], [1], [2]] := ⟨by decide, by decide⟩
  clear hg
  go_enter Try.func16, Try.ntmps16
  go_wp2_with fail
  refine (islands_any 5 _ 2 _ [(0, 3), (3, 4)] _ (by omega) (by omega) (by intro e he; simp at he; rcases he with rfl | rfl <;> simp) (rd_lit w _ _ rfl rfl)).mono ?_
  rintro e w1 ⟨A1, c1, vs, h1, hc1, hm1, own1, rows1, hb1⟩
  rw [HG.out] at h1 hc1 own1 rows1
  subst h1
  have O1 := Lib.hid (RdRows.of own1 rfl rows1)
  clear own1 rows1
  have hd : decide (([[0, 3, 4], [1], [2]] : List (List Int)) = [[0, 3, 4], [1], [2]]) = true := by decide
  go_wp2_with fail
  refine name_worldC ?_
  intro X hX
  have hB1 : Below w1.heap.size w1 X := by rw [hX]; (repeat (first | (with_reducible exact Below.refl _ _) | (with_reducible assumption) | (with_reducible refine b_drew ?_) | (with_reducible refine b_drewN ?_ _) | (with_reducible refine b_alloc ?_ _) | ((with_reducible refine b_set ?_ ?_ _); rotate_left; (focus (first | omega | (simp; done) | (simp; omega) | (simp at *; omega)))) | (with_reducible refine b_call ?_ (by with_reducible assumption))))
  have hB : Below w.heap.size w X := by rw [hX]; (repeat (first | (with_reducible exact Below.refl _ _) | (with_reducible assumption) | (with_reducible refine b_drew ?_) | (with_reducible refine b_drewN ?_ _) | (with_reducible refine b_alloc ?_ _) | ((with_reducible refine b_set ?_ ?_ _); rotate_left; (focus (first | omega | (simp; done) | (simp; omega) | (simp at *; omega)))) | (with_reducible refine b_call ?_ (by with_reducible assumption))))
  have R2 : RdRows X (some ⟨w1.heap.size + 3, 0, none⟩) 3 [[0, 3, 4], [1], [2]] := by
    have r0 : Rd X X.heap.size 1 (some ⟨w1.heap.size, 0, none⟩) 3 (([0, 3, 4] : List Int).map (Value.int .i64)) := by
      rw [hX]
      exact rd_step (rd_step (rd_step (rd_lit w1 _ _ rfl rfl) (b_alloc (Below.refl _ _) _)) (b_alloc (Below.refl _ _) _)) (b_alloc (Below.refl _ _) _)
    have r1 : Rd X X.heap.size 1 (some ⟨w1.heap.size + 1, 0, none⟩) 1 (([1] : List Int).map (Value.int .i64)) := by
      rw [hX]
      exact rd_step (rd_step (rd_lit2 _ _ _ (by simp) rfl rfl) (b_alloc (Below.refl _ _) _)) (b_alloc (Below.refl _ _) _)
    have r2 : Rd X X.heap.size 1 (some ⟨w1.heap.size + 2, 0, none⟩) 1 (([2] : List Int).map (Value.int .i64)) := by
      rw [hX]
      exact rd_step (rd_lit2 _ _ _ (by simp) rfl rfl) (b_alloc (Below.refl _ _) _)
    refine rdrows_lit rfl (vs := [.slice (some ⟨w1.heap.size, 0, none⟩) 3 3, .slice (some ⟨w1.heap.size + 1, 0, none⟩) 1 1, .slice (some ⟨w1.heap.size + 2, 0, none⟩) 1 1]) ?_ fun i v row hv hr => ?_
    · rw [hX]
      exact rd_lit2 _ _ _ (by simp) rfl rfl
    · rcases i with _ | _ | _ | i
      · simp at hv hr
        subst hv hr
        exact ⟨_, _, rfl, r0⟩
      · simp at hv hr
        subst hv hr
        exact ⟨_, _, rfl, r1⟩
      · simp at hv hr
        subst hv hr
        exact ⟨_, _, rfl, r2⟩
      · simp at hv
  refine (equal2_any A1 _ _ c1 _ _ _ _ _ (O1.out.step hB1) R2 hs hs).mono ?_
  rintro e w2 ⟨rfl, hb2⟩
  go_wp2
  go_ret
  exact ⟨rfl, by (repeat (first | (with_reducible exact Below.refl _ _) | (with_reducible assumption) | (with_reducible refine b_drew ?_) | (with_reducible refine b_drewN ?_ _) | (with_reducible refine b_alloc ?_ _) | ((with_reducible refine b_set ?_ ?_ _); rotate_left; (focus (first | omega | (simp; done) | (simp; omega) | (simp at *; omega)))) | (with_reducible refine b_call ?_ (by with_reducible assumption))))⟩
end Go.Proofs.Ytjmhibjkbnbefaa
