/-
  WHAT IS PROVED HERE: the walk of the law InputqueueRaw: it returns true at every input and leaves old memory as it was.
-/
import Derived.Test.YtdjmaljldajpiaaIqW
import Derived.Test.YtdjmaljldajpiaaIqL
import Derived.Test.YtdjmaljldajpiaaAny
namespace Go.Proofs.Ytdjmaljldajpiaa
set_option linter.unusedVariables false
open Go.ChangeShapes Go.WideShapes Go.ChangeAt Go.RowKit

theorem offS_cases {k : Nat} {now player tick : Int} {x : Inp} {pd : PD} : (offS k now player tick x (pd, [])).2 = [] := offS_rows k now player tick x (pd, [])
theorem lp_offS {pd : PD} {L : List OneV} (h : LP pd L) (k : Nat) (now player tick : Int) (x : Inp) : LP (offS k now player tick x (pd, [])).1 (refL k 0 L now player tick x) := by
  unfold offS refL
  rw [lp_E h]
  by_cases he : offerE k 0 pd now player tick x = 0
  · rw [if_pos he, if_pos (show offerE k (pd, ([] : List RowV)).2.length (pd, ([] : List RowV)).1 now player tick x = 0 from he)]
    exact lp_step h he
  · rw [if_neg he, if_neg (show ¬ offerE k (pd, ([] : List RowV)).2.length (pd, ([] : List RowV)).1 now player tick x = 0 from he)]
    exact h
theorem refL_len (k n : Nat) (L : List OneV) (now player tick : Int) (x : Inp) : (refL k n L now player tick x).length ≤ L.length + 1 := by
  unfold refL
  split
  · simp
  · omega
/-- The queue and a code come back; ticks wait for three. -/
def RetOff3 (w : World) (k : Nat) (A0 : Option Addr) (L : List OneV) (E : Int) (e : Ending) (w' : World) : Prop :=
  ∃ A c, e = .returned (.tuple #[.agg #[.int .i64 k, .int .i64 3, .slice A L.length c, .slice none 0 0, .slice none 0 0], .int .i64 E]) ∧ Rd w' w'.heap.size 5 A L.length (onesC L) ∧ Below w.heap.size w w' ∧ (A = A0 ∨ ∀ a, A = some a → w.heap.size ≤ a.block)
theorem refoffer_3 (k : Nat) (AL : Option Addr) (cL : Nat) (L : List OneV) (now player tick : Int) (x y z : Int) (w : World) (rd : Rd w w.heap.size 5 AL L.length (onesC L)) (hnL : L.length ≤ 100000) (hn : -1000000 ≤ now ∧ now ≤ 1000000) :
    Calls Try.prog 15 #[.agg #[.int .i64 k, .int .i64 3, .slice AL L.length cL, .slice none 0 0, .slice none 0 0], .int .i64 now, .int .i64 player, .int .i64 tick, .agg #[.int .i64 x, .int .i64 y, .int .i64 z]] w (RetOff3 w k AL (refL k 0 L now player tick (x, y, z)) (refE k 0 L now player tick (x, y, z))) :=
  refoffer_any k 3 AL cL none 0 0 none 0 0 L now player tick x y z w rd hnL hn
theorem of3 (n a b c : Int) (w : World) (h1 : -9223372036854775808 ≤ n) (h2 : n ≤ 9223372036854775807) (hx : inpOf n = (a, b, c)) :
    Calls Try.prog 20 #[.int .i64 n] w fun e w' => e = .returned (.agg #[.int .i64 a, .int .i64 b, .int .i64 c]) ∧ Below w.heap.size w w' := by
  have := of_any n w h1 h2
  rw [hx] at this
  exact this
set_option maxRecDepth 100000 in
set_option maxHeartbeats 1000000 in
theorem raw_walk (nw pl tk ra rb rc pls : Int) (w : World) (hnw : I64 nw) (hpl : I64 pl) (htk : I64 tk) (hps : I64 pls) :
    Calls Try.prog 4 #[.int .i64 nw, .int .i64 pl, .int .i64 tk, .agg #[.int .i64 ra, .int .i64 rb, .int .i64 rc], .int .i64 pls] w fun e w' => e = .returned (.bool true) ∧ Below w.heap.size w w' := by
  have HP := Lib.hid hpl
  have HTK := Lib.hid htk
  have hab := around_bd pls 8 (by omega)
  have hat := around_bd nw 7000 (by omega)
  obtain ⟨k0, hk0, hk5⟩ : ∃ q : Nat, around pls 8 = q ∧ q < 8 := ⟨(around pls 8).toNat, by omega, by omega⟩
  obtain ⟨T, hT⟩ : ∃ t, around nw 7000 = t := ⟨_, rfl⟩
  rw [hT] at hat
  have HK0 := Lib.hid hk0
  have HT := Lib.hid hT
  obtain ⟨p1, p2⟩ := hps
  obtain ⟨n1, n2⟩ := hnw
  clear hab hk0 hT hpl htk
  go_enter Try.func4, Try.ntmps4
  go_wp2_with fail
  refine (around_any pls 8 _ p1 p2 (by omega) (by omega)).mono ?_
  rintro e w_ ⟨rfl, rfl⟩
  rw [HK0.out]
  go_wp2_with fail
  refine (around_any nw 7000 _ n1 n2 (by omega) (by omega)).mono ?_
  rintro e w_ ⟨rfl, rfl⟩
  rw [HT.out]
  clear p1 p2 n1 n2 HT HK0
  have hk1 : (1 : Int) + (k0 : Int) = ((k0 + 1 : Nat) : Int) := by omega
  obtain ⟨k, hk, hk8, hkp⟩ : ∃ k, k0 + 1 = k ∧ k ≤ 8 ∧ 1 ≤ k := ⟨_, rfl, by omega, by omega⟩
  rw [hk] at hk1
  have HK1 := Lib.hid hk1
  clear hk1
  go_upto_region 3 with (fail)
  rw [HK1.out]
  clear HK1 hk hk5
  go_wp2_with fail
  refine (new_q k 3 _ hkp hk8 (by omega)).mono ?_
  rintro e w3 ⟨p, b, rfl, hI3, hF3, hb3⟩
  have H3 := Lib.hid hI3
  have F3 := Lib.hid hF3
  have V8 := Lib.hid ((Vr.new w 34 #[.int .i64 ra, .int .i64 rb, .int .i64 rc]).call hb3)
  have HB3 : Below w.heap.size w w3 := by (repeat (first | (with_reducible exact Below.refl _ _) | (with_reducible assumption) | (with_reducible refine b_drew ?_) | (with_reducible refine b_drewN ?_ _) | (with_reducible refine b_alloc ?_ _) | ((with_reducible refine b_set ?_ ?_ _); rotate_left; (focus (first | omega | (simp; done) | (simp; omega) | (simp at *; omega)))) | (with_reducible refine b_call ?_ (by with_reducible assumption))))
  go_upto_region 8 with (fail)
  refine name_world ?_
  intro X hX
  obtain ⟨bi, hbi⟩ : ∃ x, w.heap.size = x := ⟨_, rfl⟩
  obtain ⟨bq, hbq⟩ : ∃ x, w3.heap.size = x := ⟨_, rfl⟩
  have HR := Lib.hid (show Rw w X p b bq bi k 0 ra rb rc (fun _ _ => none) [] none 0 from by
    rw [hX, ← hbq, ← hbi]
    refine ⟨H3.out.below (b_alloc (Below.refl _ _) _), Vr.new w3 _ _, Rd.nil _, (fun a e => by cases e), V8.out.alloc _, fun hf => ?_, fun hf => ?_, ?_, fun j hj => ?_, HB3.size, b_alloc HB3 _⟩
    · have := H3.out.lt _ hf; omega
    · have := F3.out _ hf; simp at this; omega
    · have := V8.out.lt; omega
    · have := F3.out _ hj; simp at this; omega)
  rw [hbi, hbq]
  clear hX hI3 hF3 hb3 H3 F3 V8 HB3 hbi hbq
  go_loopw [15] (fun s15 wr => ∃ (i nm : Nat) (pd : PD) (L : List OneV) (A : Option Addr) (c : Nat), i ≤ 2 ∧ s15 = .int .i64 i ∧ nm ≤ i ∧ L.length ≤ i ∧ Hid (Rw w wr p b bq bi k nm ra rb rc pd L A c) ∧ Hid (LP pd L)) (fun s15 _ => 2 - (intOf s15).toNat)
  case atStart => exact ⟨0, 0, _, [], none, 0, by omega, rfl, by omega, by simp, HR, lp_new⟩
  case round =>
    obtain ⟨i, nm, pd, Lq, A, c, hi, rfl, hnm, hLi, HR, HL⟩ := hrel
    by_cases hlt : i < 2
    · have d1 : decide ((i : Int) < 2) = true := by simp; omega
      obtain ⟨E, hE⟩ : ∃ E, offerE k 0 pd T pl tk (ra, rb, rc) = E := ⟨_, rfl⟩
      obtain ⟨s', hs⟩ : ∃ s, offS k T pl tk (ra, rb, rc) (pd, []) = s := ⟨_, rfl⟩
      obtain ⟨L', hL'⟩ : ∃ s, refL k 0 Lq T pl tk (ra, rb, rc) = s := ⟨_, rfl⟩
      have HE := Lib.hid hE
      have HS := Lib.hid hs
      have HS2 := Lib.hid (show s'.2 = [] from by rw [← hs]; exact offS_cases)
      have HLn := Lib.hid (show LP s'.1 L' from by rw [← hs, ← hL']; exact lp_offS HL.out k T pl tk (ra, rb, rc))
      have hLL : L'.length ≤ i + 1 := by have := refL_len k 0 Lq T pl tk (ra, rb, rc); rw [hL'] at this; omega
      have HQ := refoffer_any k 3 A c none 0 0 none 0 0 Lq T pl tk ra rb rc wr HR.out.R (by omega) ⟨by omega, by omega⟩
      rw [lp_E HL.out, hE, hL'] at HQ
      have y0 : wr.cell? ⟨bq, 0, none⟩ = some (.int .i64 k) := HR.out.V.cell 0
      have y1 : wr.cell? ⟨bq, 1, none⟩ = some (.int .i64 3) := HR.out.V.cell 1
      have y2 : wr.cell? ⟨bq, 2, none⟩ = some (.slice A Lq.length c) := HR.out.V.cell 2
      have y3 : wr.cell? ⟨bq, 3, none⟩ = some (.slice none 0 0) := HR.out.V.cell 3
      have y4 : wr.cell? ⟨bq, 4, none⟩ = some (.slice none 0 0) := HR.out.V.cell 4
      have u0 : wr.cell? ⟨bi, 0, none⟩ = some (.int .i64 ra) := HR.out.v.cell 0
      have u1 : wr.cell? ⟨bi, 1, none⟩ = some (.int .i64 rb) := HR.out.v.cell 1
      have u2 : wr.cell? ⟨bi, 2, none⟩ = some (.int .i64 rc) := HR.out.v.cell 2
      clear hE hs hL'
      go_wp2_with fail
      refine HQ.mono ?_
      rintro e w4 ⟨A4, c4, rfl, rd4, hb4, hn4⟩
      have R4 := Lib.hid (HR.out.call hb4)
      have N4 := Lib.hid (HR.out.fresh hn4)
      have RD4 := Lib.hid rd4
      clear HQ rd4 hb4 hn4 y0 y1 y2 y3 y4 u0 u1 u2 HR
      go_upto_region 11 with (fail)
      refine name_world ?_
      intro Y hY
      obtain ⟨b6, hb6⟩ : ∃ x, w4.heap.size = x := ⟨_, rfl⟩
      have V6 := Lib.hid (show Vr Y b6 30 #[.int .i64 k, .int .i64 ((3 : Nat) : Int), .slice A4 L'.length c4, .slice none 0 0, .slice none 0 0] from by rw [hY, ← hb6]; exact Vr.new w4 _ _)
      have HBY : Below w4.heap.size w4 Y := by rw [hY]; (repeat (first | (with_reducible exact Below.refl _ _) | (with_reducible assumption) | (with_reducible refine b_drew ?_) | (with_reducible refine b_drewN ?_ _) | (with_reducible refine b_alloc ?_ _) | ((with_reducible refine b_set ?_ ?_ _); rotate_left; (focus (first | omega | (simp; done) | (simp; omega) | (simp at *; omega)))) | (with_reducible refine b_call ?_ (by with_reducible assumption))))
      have RY := Lib.hid (R4.out.call HBY)
      have RDY := Lib.hid (rd_step RD4.out HBY)
      have hf6 : ¬ Foot p b none b6 := fun hf => by have := R4.out.q.lt _ hf; omega
      have h6q : ¬ b6 = bq := by have := R4.out.V.lt; omega
      rw [hb6]
      clear hY HBY R4 RD4 hb6
      have u0 : Y.cell? ⟨bi, 0, none⟩ = some (.int .i64 ra) := RY.out.v.cell 0
      have u1 : Y.cell? ⟨bi, 1, none⟩ = some (.int .i64 rb) := RY.out.v.cell 1
      have u2 : Y.cell? ⟨bi, 2, none⟩ = some (.int .i64 rc) := RY.out.v.cell 2
      have qE : (E != E) = false := bne_self_eq_false E
      go_wp2_with fail
      refine (offer_q p b none k 3 nm (pd, []) _ T pl tk ra rb rc s' E RY.out.q HS.out HE.out (i64_small (by omega) (by omega)) HP.out HTK.out hk8 (by simp) (by omega)).mono ?_
      rintro e w5 ⟨rfl, hI5, m5⟩
      rw [HS2.out] at hI5
      have R5 := Lib.hid (RY.out.move hI5 m5)
      have V6 := Lib.hid (V6.out.only m5.2 hf6)
      have RD5 := Lib.hid ((rd_onlyF RDY.out (Nat.le_refl _) m5.2 fun a e => (N4.out a e).2).more m5.2.size)
      clear hI5 m5 RY RDY u0 u1 u2
      go_wp2_with fail
      refine (next_any p b none k 3 _ _ [] _ R5.out.q).mono ?_
      rintro e w_ ⟨rfl, rfl⟩
      rw [show (([] : List RowV).length : Int) = 0 from rfl]
      have z0 : w5.cell? ⟨b6, 0, none⟩ = some (.int .i64 k) := V6.out.cell 0
      have z1 : w5.cell? ⟨b6, 1, none⟩ = some (.int .i64 ((3 : Nat) : Int)) := V6.out.cell 1
      have z2 : w5.cell? ⟨b6, 2, none⟩ = some (.slice A4 L'.length c4) := V6.out.cell 2
      have z3 : w5.cell? ⟨b6, 3, none⟩ = some (.slice none 0 0) := V6.out.cell 3
      have z4 : w5.cell? ⟨b6, 4, none⟩ = some (.slice none 0 0) := V6.out.cell 4
      obtain ⟨v1, v2, v3⟩ := R5.out.V.facts
      go_wp2
      go_roundw
      case rel => exact ⟨i + 1, nm + 1, s'.1, L', A4, c4, by omega, by go_num, by omega, by omega, Lib.hid (R5.out.put (oq_set (oq_set (oq_set (oq_set (oq_set (Only.refl _ _) 0 (.int .i64 k)) 1 (.int .i64 3)) 2 (.slice A4 L'.length c4)) 3 (.slice none 0 0)) 4 (.slice none 0 0)) (vr_set5 R5.out.V _ _ _ _ _) RD5.out N4.out), HLn⟩
      case measure => simp [intOf]; omega
    · have d1 : decide ((i : Int) < 2) = false := by simp; omega
      have HX0 := Lib.hid (inpOf_val tk)
      obtain ⟨⟨az, bz, dz⟩, hx⟩ : ∃ x, inpOf tk = x := ⟨_, rfl⟩
      have HX := Lib.hid hx
      have hkz : (k = 0) = False := eq_false (by omega)
      have HPM := Lib.hid (show I64 (pl.tmod k) from by
        have h1 := Int.natAbs_tmod pl k
        have h2 := Nat.mod_lt pl.natAbs (show 0 < ((k : Int)).natAbs by omega)
        rw [← h1] at h2
        unfold I64
        omega)
      obtain ⟨E2, hE⟩ : ∃ E, offerE k 0 pd T (pl.tmod k) (T + 8) (az, bz, dz) = E := ⟨_, rfl⟩
      obtain ⟨L2, hL2⟩ : ∃ s, refL k 0 Lq T (pl.tmod k) (T + 8) (az, bz, dz) = s := ⟨_, rfl⟩
      have HE := Lib.hid hE
      have HL2 := Lib.hid hL2
      have y0 : wr.cell? ⟨bq, 0, none⟩ = some (.int .i64 k) := HR.out.V.cell 0
      have y1 : wr.cell? ⟨bq, 1, none⟩ = some (.int .i64 3) := HR.out.V.cell 1
      have y2 : wr.cell? ⟨bq, 2, none⟩ = some (.slice A Lq.length c) := HR.out.V.cell 2
      have y3 : wr.cell? ⟨bq, 3, none⟩ = some (.slice none 0 0) := HR.out.V.cell 3
      have y4 : wr.cell? ⟨bq, 4, none⟩ = some (.slice none 0 0) := HR.out.V.cell 4
      have qE : (E2 == E2) = true := beq_self_eq_true E2
      clear hx hE hL2
      obtain ⟨X, rfl⟩ : ∃ W : World, W = wr := ⟨_, rfl⟩
      have q8 : IntKind.i64.wrap (T + 8) = T + 8 := IntWalk.i64_in _ (by omega)
      go_wp2
      refine wp_region_any (by kernel_rfl) ?_
      change wpAny _ _ _ _ _ _ _ (World.drew _)
      refine take_at (i := 1) (some 60) (v := ?vg235) rfl rfl (by kernel_rfl) (by kernel_rfl) (by kernel_rfl) (fun _ _ _ h => h) (Or.inl ⟨by rfl, ?hg235⟩) ?rg235
      case hg235 => (intro w0; go_simp; try with_reducible rfl)
      simp only [Act.put, List.setIfInBounds_toArray, List.set_cons_zero, List.set_cons_succ]
      refine take_at (i := 2) (some 61) (v := ?vg236) rfl rfl (by kernel_rfl) (by kernel_rfl) (by kernel_rfl) (fun _ _ _ h => h) (Or.inl ⟨by rfl, ?hg236⟩) ?rg236
      case hg236 => (intro w0; go_simp; try with_reducible rfl)
      simp only [Act.put, List.setIfInBounds_toArray, List.set_cons_zero, List.set_cons_succ]
      refine take_at (i := 3) (some 62) (v := ?vg237) rfl rfl (by kernel_rfl) (by kernel_rfl) (by kernel_rfl) (fun _ _ _ h => h) (Or.inl ⟨by rfl, ?hg237⟩) ?rg237
      case hg237 => (intro w0; go_simp; try with_reducible rfl)
      simp only [Act.put, List.setIfInBounds_toArray, List.set_cons_zero, List.set_cons_succ]
      refine take_at (i := 4) (some 63) (v := ?vg238) rfl rfl (by kernel_rfl) (by kernel_rfl) (by kernel_rfl) (fun _ _ _ h => h) (Or.inl ⟨by rfl, ?hg238⟩) ?rg238
      case hg238 => (intro w0; go_simp; try with_reducible rfl)
      simp only [Act.put, List.setIfInBounds_toArray, List.set_cons_zero, List.set_cons_succ]
      refine take_at (i := 5) (some 64) (v := ?vg239) rfl rfl (by kernel_rfl) (by kernel_rfl) (by kernel_rfl) (fun _ _ _ h => h) (Or.inl ⟨by rfl, ?hg239⟩) ?rg239
      case hg239 => (intro w0; go_simp; try with_reducible rfl)
      simp only [Act.put, List.setIfInBounds_toArray, List.set_cons_zero, List.set_cons_succ]
      refine take_at (i := 6) (some 65) (v := ?vg240) rfl rfl (by kernel_rfl) (by kernel_rfl) (by kernel_rfl) (fun _ _ _ h => h) (Or.inl ⟨by rfl, ?hg240⟩) ?rg240
      case hg240 => (intro w0; go_simp; try with_reducible rfl)
      simp only [Act.put, List.setIfInBounds_toArray, List.set_cons_zero, List.set_cons_succ]
      refine take_at (i := 7) (some 66) (v := ?vg241) rfl rfl (by kernel_rfl) (by kernel_rfl) (by kernel_rfl) (fun _ _ _ h => h) (Or.inl ⟨by rfl, ?hg241⟩) ?rg241
      case hg241 => (intro w0; go_simp; try with_reducible rfl)
      simp only [Act.put, List.setIfInBounds_toArray, List.set_cons_zero, List.set_cons_succ]
      refine wpAny_go (fun A0 L aa w => ∃ (v59 v67 v68 v58 v69 v70 v18 v19 : Value) (A2 : Option Addr) (c2 : Nat) (hb : Nat), aa = fr A0 [(59, v59), (67, v67), (68, v68), (58, v58), (69, v69), (70, v70), (18, v18), (19, v19)] ∧ ((L 10 = true → L 9 = true) ∧ (L 11 = true → L 10 = true) ∧ (L 12 = true → L 10 = true)) ∧ (Below X.heap.size X w) ∧ (Hid (L 13 = true → X.heap.size ≤ hb ∧ ∃ u0 u1 u2 u3 u4, Vr w hb 30 #[u0, u1, u2, u3, u4])) ∧ Hid (L 0 = true → v59 = Value.agg #[.int .i64 k, .int .i64 3, .slice A Lq.length c, .slice none 0 0, .slice none 0 0]) ∧ Hid (L 8 = true → v67 = Value.agg #[.int .i64 az, .int .i64 bz, .int .i64 dz]) ∧ Hid (L 9 = true → v68 = Value.tuple #[.agg #[.int .i64 k, .int .i64 3, .slice A2 L2.length c2, .slice none 0 0, .slice none 0 0], .int .i64 E2]) ∧ Hid (L 10 = true → v58 = Value.tuple #[.agg #[.int .i64 k, .int .i64 3, .slice A2 L2.length c2, .slice none 0 0, .slice none 0 0], .int .i64 E2]) ∧ Hid (L 11 = true → v69 = Value.agg #[.int .i64 k, .int .i64 3, .slice A2 L2.length c2, .slice none 0 0, .slice none 0 0]) ∧ Hid (L 12 = true → v70 = Value.int .i64 E2) ∧ Hid (L 13 = true → v18 = Value.pointer (some ⟨hb, 0, none⟩)) ∧ Hid (L 15 = true → v19 = Value.int .i64 E2)) [0, 8, 9, 10, 11, 12, 13, 14, 15] (by kernel_rfl) (by kernel_rfl) ?a234I ?a234S ?a234D
      case a234I =>
        refine ⟨?v59, ?v67, ?v68, ?v58, ?v69, ?v70, ?v18, ?v19, A, 0, 0, ?fr, ⟨no_yet (by kernel_rfl), no_yet (by kernel_rfl), no_yet (by kernel_rfl)⟩, b_drew (Below.refl _ _), Lib.hid (no_yet (by kernel_rfl)), Lib.hid (no_yet (by kernel_rfl)), Lib.hid (no_yet (by kernel_rfl)), Lib.hid (no_yet (by kernel_rfl)), Lib.hid (no_yet (by kernel_rfl)), Lib.hid (no_yet (by kernel_rfl)), Lib.hid (no_yet (by kernel_rfl)), Lib.hid (no_yet (by kernel_rfl)), Lib.hid (no_yet (by kernel_rfl))⟩
        case fr => (simp only [fr, List.foldl_cons, List.foldl_nil, Act.put, List.setIfInBounds_toArray, List.set_cons_zero, List.set_cons_succ]; rfl)
      case a234S =>
        refine Steps.go (i := 0) (o := _) rfl ?s0 (Steps.go (i := 8) (o := _) rfl ?s8 (Steps.go (i := 9) (o := _) rfl ?s9 (Steps.go (i := 10) (o := _) rfl ?s10 (Steps.go (i := 11) (o := _) rfl ?s11 (Steps.go (i := 12) (o := _) rfl ?s12 (Steps.go (i := 13) (o := _) rfl ?s13 (Steps.go (i := 14) (o := _) rfl ?s14 (Steps.go (i := 15) (o := _) rfl ?s15 Steps.nil))))))))
        · rintro L aa w h0 hd ⟨v59, v67, v68, v58, v69, v70, v18, v19, A2, c2, hb, rfl, hY, hB, hV, f0, f8, f9, f10, f11, f12, f13, f15⟩ K hK
          simp only [fr, List.foldl_cons, List.foldl_nil, Act.put, List.setIfInBounds_toArray, List.set_cons_zero, List.set_cons_succ]
          have z0 := cell_keep hB y0
          have z1 := cell_keep hB y1
          have z2 := cell_keep hB y2
          have z3 := cell_keep hB y3
          have z4 := cell_keep hB y4
          go_simp
          exact hK _ _ ⟨(Value.agg #[.int .i64 k, .int .i64 3, .slice A Lq.length c, .slice none 0 0, .slice none 0 0]), v67, v68, v58, v69, v70, v18, v19, A2, c2, hb, (by simp only [fr, List.foldl_cons, List.foldl_nil, Act.put, List.setIfInBounds_toArray, List.set_cons_zero, List.set_cons_succ]), hY, hB, hV, Lib.hid (fun _ => rfl), f8, f9, f10, f11, f12, f13, f15⟩
        · rintro L aa w h0 hd ⟨v59, v67, v68, v58, v69, v70, v18, v19, A2, c2, hb, rfl, hY, hB, hV, f0, f8, f9, f10, f11, f12, f13, f15⟩ K hK
          simp only [fr, List.foldl_cons, List.foldl_nil, Act.put, List.setIfInBounds_toArray, List.set_cons_zero, List.set_cons_succ]
          go_simp
          refine (of3 tk az bz dz _ HTK.out.1 HTK.out.2 HX.out).mono ?_
          rintro e w2 ⟨rfl, hb2⟩
          exact hK _ _ ⟨v59, (Value.agg #[.int .i64 az, .int .i64 bz, .int .i64 dz]), v68, v58, v69, v70, v18, v19, A2, c2, hb, (by simp only [fr, List.foldl_cons, List.foldl_nil, Act.put, List.setIfInBounds_toArray, List.set_cons_zero, List.set_cons_succ]), hY, b_call hB hb2, Lib.hid (fun l => by obtain ⟨h1, u0, u1, u2, u3, u4, h2⟩ := hV.out l; exact ⟨h1, u0, u1, u2, u3, u4, h2.call hb2⟩), f0, Lib.hid (fun _ => rfl), f9, f10, f11, f12, f13, f15⟩
        · rintro L aa w h0 hd ⟨v59, v67, v68, v58, v69, v70, v18, v19, A2, c2, hb, rfl, hY, hB, hV, f0, f8, f9, f10, f11, f12, f13, f15⟩ K hK
          obtain rfl := f0.out (hd 0 (by kernel_rfl))
          obtain rfl := f8.out (hd 8 (by kernel_rfl))
          simp only [fr, List.foldl_cons, List.foldl_nil, Act.put, List.setIfInBounds_toArray, List.set_cons_zero, List.set_cons_succ]
          go_simp
          have HQ := refoffer_3 k A c Lq T (pl.tmod k) (T + 8) az bz dz w (rd_step HR.out.R hB) (by omega) ⟨by omega, by omega⟩
          rw [lp_E HL.out, HE.out, HL2.out] at HQ
          have e10 : L 10 = false := by rcases h : L 10 with _ | _ <;> first | rfl | exact absurd (hY.1 h) (by simp [h0])
          have e11 : L 11 = false := by rcases h : L 11 with _ | _ <;> first | rfl | exact absurd (hY.2.1 h) (by simp [e10])
          refine HQ.mono ?_
          rintro e w3 ⟨A3, c3, rfl, rd3, hb3, hn3⟩
          exact hK _ _ ⟨(Value.agg #[.int .i64 k, .int .i64 3, .slice A Lq.length c, .slice none 0 0, .slice none 0 0]), (Value.agg #[.int .i64 az, .int .i64 bz, .int .i64 dz]), (Value.tuple #[.agg #[.int .i64 k, .int .i64 3, .slice (A3) L2.length (c3), .slice none 0 0, .slice none 0 0], .int .i64 E2]), v58, v69, v70, v18, v19, A3, c3, hb, (by simp only [fr, List.foldl_cons, List.foldl_nil, Act.put, List.setIfInBounds_toArray, List.set_cons_zero, List.set_cons_succ]), ⟨fun _ => rfl, hY.2.1, hY.2.2⟩, b_call hB hb3, Lib.hid (fun l => by obtain ⟨h1, u0, u1, u2, u3, u4, h2⟩ := hV.out l; exact ⟨h1, u0, u1, u2, u3, u4, h2.call hb3⟩), f0, f8, Lib.hid (fun _ => rfl), Lib.hid (no_yet e10), Lib.hid (no_yet e11), f12, f13, f15⟩
        · rintro L aa w h0 hd ⟨v59, v67, v68, v58, v69, v70, v18, v19, A2, c2, hb, rfl, hY, hB, hV, f0, f8, f9, f10, f11, f12, f13, f15⟩ K hK
          obtain rfl := f9.out (hd 9 (by kernel_rfl))
          simp only [fr, List.foldl_cons, List.foldl_nil, Act.put, List.setIfInBounds_toArray, List.set_cons_zero, List.set_cons_succ]
          have d9 := hd 9 (by kernel_rfl)
          go_simp
          exact hK _ _ ⟨v59, v67, (Value.tuple #[.agg #[.int .i64 k, .int .i64 3, .slice A2 L2.length c2, .slice none 0 0, .slice none 0 0], .int .i64 E2]), (Value.tuple #[.agg #[.int .i64 k, .int .i64 3, .slice A2 L2.length c2, .slice none 0 0, .slice none 0 0], .int .i64 E2]), v69, v70, v18, v19, A2, c2, hb, (by simp only [fr, List.foldl_cons, List.foldl_nil, Act.put, List.setIfInBounds_toArray, List.set_cons_zero, List.set_cons_succ]), ⟨fun _ => d9, fun _ => rfl, fun _ => rfl⟩, hB, hV, f0, f8, f9, Lib.hid (fun _ => rfl), f11, f12, f13, f15⟩
        · rintro L aa w h0 hd ⟨v59, v67, v68, v58, v69, v70, v18, v19, A2, c2, hb, rfl, hY, hB, hV, f0, f8, f9, f10, f11, f12, f13, f15⟩ K hK
          obtain rfl := f10.out (hd 10 (by kernel_rfl))
          simp only [fr, List.foldl_cons, List.foldl_nil, Act.put, List.setIfInBounds_toArray, List.set_cons_zero, List.set_cons_succ]
          have d10 := hd 10 (by kernel_rfl)
          go_simp
          exact hK _ _ ⟨v59, v67, v68, (Value.tuple #[.agg #[.int .i64 k, .int .i64 3, .slice A2 L2.length c2, .slice none 0 0, .slice none 0 0], .int .i64 E2]), (Value.agg #[.int .i64 k, .int .i64 3, .slice A2 L2.length c2, .slice none 0 0, .slice none 0 0]), v70, v18, v19, A2, c2, hb, (by simp only [fr, List.foldl_cons, List.foldl_nil, Act.put, List.setIfInBounds_toArray, List.set_cons_zero, List.set_cons_succ]), ⟨hY.1, fun _ => d10, hY.2.2⟩, hB, hV, f0, f8, f9, f10, Lib.hid (fun _ => rfl), f12, f13, f15⟩
        · rintro L aa w h0 hd ⟨v59, v67, v68, v58, v69, v70, v18, v19, A2, c2, hb, rfl, hY, hB, hV, f0, f8, f9, f10, f11, f12, f13, f15⟩ K hK
          obtain rfl := f10.out (hd 10 (by kernel_rfl))
          simp only [fr, List.foldl_cons, List.foldl_nil, Act.put, List.setIfInBounds_toArray, List.set_cons_zero, List.set_cons_succ]
          have d10 := hd 10 (by kernel_rfl)
          go_simp
          exact hK _ _ ⟨v59, v67, v68, (Value.tuple #[.agg #[.int .i64 k, .int .i64 3, .slice A2 L2.length c2, .slice none 0 0, .slice none 0 0], .int .i64 E2]), v69, (Value.int .i64 E2), v18, v19, A2, c2, hb, (by simp only [fr, List.foldl_cons, List.foldl_nil, Act.put, List.setIfInBounds_toArray, List.set_cons_zero, List.set_cons_succ]), ⟨hY.1, hY.2.1, fun _ => d10⟩, hB, hV, f0, f8, f9, f10, f11, Lib.hid (fun _ => rfl), f13, f15⟩
        · rintro L aa w h0 hd ⟨v59, v67, v68, v58, v69, v70, v18, v19, A2, c2, hb, rfl, hY, hB, hV, f0, f8, f9, f10, f11, f12, f13, f15⟩ K hK
          simp only [fr, List.foldl_cons, List.foldl_nil, Act.put, List.setIfInBounds_toArray, List.set_cons_zero, List.set_cons_succ]
          go_simp
          exact hK _ _ ⟨v59, v67, v68, v58, v69, v70, (Value.pointer (some ⟨(w.heap.size), 0, none⟩)), v19, A2, c2, w.heap.size, (by simp only [fr, List.foldl_cons, List.foldl_nil, Act.put, List.setIfInBounds_toArray, List.set_cons_zero, List.set_cons_succ]), hY, b_alloc hB _, Lib.hid (fun _ => ⟨hB.size, _, _, _, _, _, Vr.new w _ _⟩), f0, f8, f9, f10, f11, f12, Lib.hid (fun _ => rfl), f15⟩
        · rintro L aa w h0 hd ⟨v59, v67, v68, v58, v69, v70, v18, v19, A2, c2, hb, rfl, hY, hB, hV, f0, f8, f9, f10, f11, f12, f13, f15⟩ K hK
          obtain rfl := f11.out (hd 11 (by kernel_rfl))
          obtain rfl := f13.out (hd 13 (by kernel_rfl))
          simp only [fr, List.foldl_cons, List.foldl_nil, Act.put, List.setIfInBounds_toArray, List.set_cons_zero, List.set_cons_succ]
          have d13 := hd 13 (by kernel_rfl)
          obtain ⟨hv0, u0, u1, u2, u3, u4, hv⟩ := hV.out d13
          have HV1 := Lib.hid hv
          have z0 : w.cell? ⟨hb, 0, none⟩ = some u0 := hv.cell 0
          have z1 : w.cell? ⟨hb, 1, none⟩ = some u1 := hv.cell 1
          have z2 : w.cell? ⟨hb, 2, none⟩ = some u2 := hv.cell 2
          have z3 : w.cell? ⟨hb, 3, none⟩ = some u3 := hv.cell 3
          have z4 : w.cell? ⟨hb, 4, none⟩ = some u4 := hv.cell 4
          have zl := hv.lt
          have zf := hv.frozen
          clear hv
          go_simp
          exact hK _ _ ⟨v59, v67, v68, v58, (Value.agg #[.int .i64 k, .int .i64 3, .slice A2 L2.length c2, .slice none 0 0, .slice none 0 0]), v70, (Value.pointer (some ⟨hb, 0, none⟩)), v19, A2, c2, hb, (by simp only [fr, List.foldl_cons, List.foldl_nil, Act.put, List.setIfInBounds_toArray, List.set_cons_zero, List.set_cons_succ]), hY, b_set (b_set (b_set (b_set (b_set hB hv0 _) hv0 _) hv0 _) hv0 _) hv0 _, Lib.hid (fun _ => ⟨hv0, _, _, _, _, _, vr_set5 HV1.out _ _ _ _ _⟩), f0, f8, f9, f10, f11, f12, f13, f15⟩
        · rintro L aa w h0 hd ⟨v59, v67, v68, v58, v69, v70, v18, v19, A2, c2, hb, rfl, hY, hB, hV, f0, f8, f9, f10, f11, f12, f13, f15⟩ K hK
          obtain rfl := f12.out (hd 12 (by kernel_rfl))
          simp only [fr, List.foldl_cons, List.foldl_nil, Act.put, List.setIfInBounds_toArray, List.set_cons_zero, List.set_cons_succ]
          go_simp
          exact hK _ _ ⟨v59, v67, v68, v58, v69, (Value.int .i64 E2), v18, (Value.int .i64 E2), A2, c2, hb, (by simp only [fr, List.foldl_cons, List.foldl_nil, Act.put, List.setIfInBounds_toArray, List.set_cons_zero, List.set_cons_succ]), hY, hB, hV, f0, f8, f9, f10, f11, f12, f13, Lib.hid (fun _ => rfl)⟩
      case a234D =>
        rintro L aa w hL ⟨v59, v67, v68, v58, v69, v70, v18, v19, A2, c2, hb, rfl, hY, hB, hV, f0, f8, f9, f10, f11, f12, f13, f15⟩
        obtain rfl := f0.out (hL 0 (by decide))
        obtain rfl := f8.out (hL 8 (by decide))
        obtain rfl := f9.out (hL 9 (by decide))
        obtain rfl := f10.out (hL 10 (by decide))
        obtain rfl := f11.out (hL 11 (by decide))
        obtain rfl := f12.out (hL 12 (by decide))
        obtain rfl := f13.out (hL 13 (by decide))
        obtain rfl := f15.out (hL 15 (by decide))
        have l14 := hL 14 (by decide)
        simp only [fr, List.foldl_cons, List.foldl_nil, Act.put, List.setIfInBounds_toArray, List.set_cons_zero, List.set_cons_succ]
        have RW := Lib.hid (HR.out.call hB)
        clear hV hY hB y0 y1 y2 y3 y4
        go_wp2
        refine wp_region_any (by kernel_rfl) ?_
        change wpAny _ _ _ _ _ _ _ (World.drew _)
        refine take_at (i := 0) (some 71) (v := ?vg217) rfl rfl (by kernel_rfl) (by kernel_rfl) (by kernel_rfl) (fun _ _ _ h => h) (Or.inl ⟨by rfl, ?hg217⟩) ?rg217
        case hg217 => (intro w0; go_simp; try with_reducible rfl)
        simp only [Act.put, List.setIfInBounds_toArray, List.set_cons_zero, List.set_cons_succ]
        refine take_at (i := 1) (some 72) (v := ?vg218) rfl rfl (by kernel_rfl) (by kernel_rfl) (by kernel_rfl) (fun _ _ _ h => h) (Or.inl ⟨by rfl, ?hg218⟩) ?rg218
        case hg218 => (intro w0; go_simp; try with_reducible rfl)
        simp only [Act.put, List.setIfInBounds_toArray, List.set_cons_zero, List.set_cons_succ]
        refine take_at (i := 2) (some 73) (v := ?vg219) rfl rfl (by kernel_rfl) (by kernel_rfl) (by kernel_rfl) (fun _ _ _ h => h) (Or.inl ⟨by rfl, ?hg219⟩) ?rg219
        case hg219 => (intro w0; go_simp; try with_reducible rfl)
        simp only [Act.put, List.setIfInBounds_toArray, List.set_cons_zero, List.set_cons_succ]
        refine take_at (i := 3) (some 74) (v := ?vg220) rfl rfl (by kernel_rfl) (by kernel_rfl) (by kernel_rfl) (fun _ _ _ h => h) (Or.inl ⟨by rfl, ?hg220⟩) ?rg220
        case hg220 => (intro w0; go_simp; try with_reducible rfl)
        simp only [Act.put, List.setIfInBounds_toArray, List.set_cons_zero, List.set_cons_succ]
        refine take_at (i := 4) (some 75) (v := ?vg221) rfl rfl (by kernel_rfl) (by kernel_rfl) (by kernel_rfl) (fun _ _ _ h => h) (Or.inl ⟨by rfl, ?hg221⟩) ?rg221
        case hg221 => (intro w0; go_simp; try with_reducible rfl)
        simp only [Act.put, List.setIfInBounds_toArray, List.set_cons_zero, List.set_cons_succ]
        refine take_at (i := 5) (some 76) (v := ?vg222) rfl rfl (by kernel_rfl) (by kernel_rfl) (by kernel_rfl) (fun _ _ _ h => h) (Or.inl ⟨by rfl, ?hg222⟩) ?rg222
        case hg222 => (intro w0; go_simp; try with_reducible rfl)
        simp only [Act.put, List.setIfInBounds_toArray, List.set_cons_zero, List.set_cons_succ]
        refine take_at (i := 6) (some 77) (v := ?vg223) rfl rfl (by kernel_rfl) (by kernel_rfl) (by kernel_rfl) (fun _ _ _ h => h) (Or.inl ⟨by rfl, ?hg223⟩) ?rg223
        case hg223 => (intro w0; go_simp; try with_reducible rfl)
        simp only [Act.put, List.setIfInBounds_toArray, List.set_cons_zero, List.set_cons_succ]
        refine take_at (i := 7) (some 78) (v := ?vg224) rfl rfl (by kernel_rfl) (by kernel_rfl) (by kernel_rfl) (fun _ _ _ h => h) (Or.inl ⟨by rfl, ?hg224⟩) ?rg224
        case hg224 => (intro w0; go_simp; try with_reducible rfl)
        simp only [Act.put, List.setIfInBounds_toArray, List.set_cons_zero, List.set_cons_succ]
        refine take_at (i := 10) (some 81) (v := ?vg225) rfl rfl (by kernel_rfl) (by kernel_rfl) (by kernel_rfl) (fun _ _ _ h => h) (Or.inl ⟨by rfl, ?hg225⟩) ?rg225
        case hg225 => (intro w0; go_simp; try with_reducible rfl)
        simp only [Act.put, List.setIfInBounds_toArray, List.set_cons_zero, List.set_cons_succ]
        refine wpAny_ready (rs := [8]) (by kernel_rfl) (by simp) ?_
        refine AllReady.cons (o := _) rfl (fun K hK => ?_) AllReady.nil
        go_simp
        refine (of3 tk az bz dz _ HTK.out.1 HTK.out.2 HX.out).mono ?_
        rintro e w2 ⟨rfl, hb2⟩
        have RW := Lib.hid (RW.out.call (show Below w.heap.size w w2 from by (repeat (first | (with_reducible exact Below.refl _ _) | (with_reducible assumption) | (with_reducible refine b_drew ?_) | (with_reducible refine b_drewN ?_ _) | (with_reducible refine b_alloc ?_ _) | ((with_reducible refine b_set ?_ ?_ _); rotate_left; (focus (first | omega | (simp; done) | (simp; omega) | (simp at *; omega)))) | (with_reducible refine b_call ?_ (by with_reducible assumption))))))
        clear hb2
        refine hK _ _ ?_
        clear hK K
        refine wpAny_ready (rs := [9]) (by kernel_rfl) (by simp) ?_
        refine AllReady.cons (o := _) rfl (fun K hK => ?_) AllReady.nil
        go_simp
        refine (offer_q p b none k 3 nm (pd, []) _ T (pl.tmod k) (T + 8) az bz dz _ E2 RW.out.q rfl HE.out (i64_small (by omega) (by omega)) HPM.out (i64_small (by omega) (by omega)) hk8 (by simp) (by omega)).mono ?_
        rintro e w5 ⟨rfl, hI5, m5⟩
        rw [offS_cases] at hI5
        have R5 := Lib.hid (RW.out.move hI5 m5)
        clear hI5 m5
        refine hK _ _ ?_
        clear hK K
        refine take_at (i := 11) (some 82) (v := ?vg228) rfl rfl (by kernel_rfl) (by kernel_rfl) (by kernel_rfl) (fun _ _ _ h => h) (Or.inl ⟨by rfl, ?hg228⟩) ?rg228
        case hg228 => (intro w0; go_simp; try with_reducible rfl)
        simp only [Act.put, List.setIfInBounds_toArray, List.set_cons_zero, List.set_cons_succ]
        refine take_at (i := 12) (some 83) (v := ?vg229) rfl rfl (by kernel_rfl) (by kernel_rfl) (by kernel_rfl) (fun _ _ _ h => h) (Or.inl ⟨by rfl, ?hg229⟩) ?rg229
        case hg229 => (intro w0; go_simp; try with_reducible rfl)
        simp only [Act.put, List.setIfInBounds_toArray, List.set_cons_zero, List.set_cons_succ]
        refine wpAny_ready (rs := [13]) (by kernel_rfl) (by simp) ?_
        refine AllReady.cons (o := _) rfl (fun K hK => ?_) AllReady.nil
        go_simp
        refine (lives_any _).mono ?_
        rintro e w6 ⟨rfl, hb6⟩
        refine hK _ _ ?_
        clear hK K
        refine take_at (i := 14) (some 85) (v := ?vg231) rfl rfl (by kernel_rfl) (by kernel_rfl) (by kernel_rfl) (fun _ _ _ h => h) (Or.inl ⟨by rfl, ?hg231⟩) ?rg231
        case hg231 => (intro w0; go_simp; try with_reducible rfl)
        simp only [Act.put, List.setIfInBounds_toArray, List.set_cons_zero, List.set_cons_succ]
        refine wpAny_ready (rs := [15]) (by kernel_rfl) (by simp) ?_
        refine AllReady.cons (o := _) rfl (fun K hK => ?_) AllReady.nil
        go_simp
        refine hK _ _ ?_
        clear hK K
        refine wpAny_done (by kernel_rfl) ?_ _
        go_wp2
        go_ret
        exact ⟨rfl, (R5.out.call hb6).hb⟩
end Go.Proofs.Ytdjmaljldajpiaa
