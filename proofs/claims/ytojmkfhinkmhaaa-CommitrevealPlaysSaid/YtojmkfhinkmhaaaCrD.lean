/-
  WHAT IS PROVED HERE: the contract of package commitreveal's Commit. No condition but that the round lies in memory as stated.
-/
import Derived.Test.YtojmkfhinkmhaaaCrC
import Derived.Test.YtojmkfhinkmhaaaAny
namespace Go.Proofs.Ytojmkfhinkmhaaa
set_option linter.unusedVariables false
open Go.ChangeShapes Go.WideShapes Go.ChangeAt Go.RowKit

/-- What Commit answers, and what it does. -/
def cmE (r : RdV) (pl : Int) : Int := if badP r.k pl then 17 else if r.o then 20 else if (r.st pl.toNat).c then 4 else 0
def cmR (r : RdV) (q : Nat) (c : Int) : RdV := { r with st := setSt r.st q { r.st q with c := true, h := c } }
def cmR1 (r : RdV) (q : Nat) : RdV := { r with st := setSt r.st q { r.st q with c := true } }
theorem cell_keepG {X w' : World} {g : Nat} {p : Addr} {v : Value} (hb : Only (· = g) X w') (hp : ¬ p.block = g) (hc : X.cell? p = some v) : w'.cell? p = some v :=
  (World.cell?_of_block (w := X) (a := p) (hb.heap (World.block_lt_of_cell? X p hc) hp)).trans hc
theorem setSt_set (f : Nat → StV) (q : Nat) (s s' : StV) : setSt (setSt f q s) q s' = setSt f q s' := by
  funext x
  unfold setSt
  by_cases h : x = q <;> simp [h]
theorem setSt_at (f : Nat → StV) (q : Nat) (s : StV) : setSt f q s q = s := if_pos rfl
theorem cr_set0 {w : World} {g q : Nat} {r : RdV} (h : Cr w g r) (hq : q < 8) : Cr (w.setCell ⟨g, 3 + q * 6, none⟩ (.bool true)) g (cmR1 r q) := by
  have h1 := Vr.set h (3 + q * 6 + 0) (.bool true)
  rw [rdC_set r hq (by omega) _ { r.st q with c := true } rfl] at h1
  exact h1
theorem cr_set2 {w : World} {g q : Nat} {r : RdV} (h : Cr w g (cmR1 r q)) (hq : q < 8) (c : Int) : Cr (w.setCell ⟨g, 3 + q * 6 + 2, none⟩ (.int .u64 c)) g (cmR r q c) := by
  have h1 := Vr.set h (3 + q * 6 + 2) (.int .u64 c)
  rw [rdC_set (cmR1 r q) hq (by omega) _ { r.st q with c := true, h := c } (by simp only [cmR1, setSt_at]; rfl)] at h1
  simp only [cmR1, setSt_set] at h1
  exact h1
def cmCodes (r : RdV) (pl : Int) : List Int := [if badP r.k pl then 17 else 0, if r.o then 20 else 0, if (r.st pl.toNat).c then 4 else 0]
theorem cm_first (r : RdV) (pl : Int) : firstE (cmCodes r pl) = cmE r pl := by
  unfold cmCodes cmE
  rcases badP r.k pl with _ | _ <;> rcases r.o with _ | _ <;> rcases (r.st pl.toNat).c with _ | _ <;> rfl
theorem toNat_nat (q : Nat) : ((q : Int)).toNat = q := rfl
theorem good_of {k : Nat} {pl : Int} (h : (if badP k pl then (17 : Int) else 0) = 0) : ∃ q : Nat, pl = q ∧ q < k := by
  unfold badP at h
  by_cases hc : pl < 0 ∨ (k : Int) ≤ pl
  · rw [decide_eq_true hc] at h
    simp at h
  · exact ⟨pl.toNat, by omega, by omega⟩
/-- Three checks in a row answer as their codes say. -/
theorem ans3 {w : World} {v1 v2 v3 : Value} {c1 c2 c3 : Int} (h1 : Ans w v1 (.int .i64 c1)) (h2 : Ans w v2 (.int .i64 c2)) (h3 : c1 = 0 → Ans w v3 (.int .i64 c3)) :
    ∀ j (g1 : j < [v1, v2, v3].length) (g2 : j < [c1, c2, c3].length), (∀ i (hi : i < [c1, c2, c3].length), i < j → [c1, c2, c3][i] = 0) → Ans w [v1, v2, v3][j] (.int .i64 [c1, c2, c3][j]) := by
  intro j g1 g2 h0
  have hj : j = 0 ∨ j = 1 ∨ j = 2 := by simp at g1; omega
  rcases hj with rfl | rfl | rfl
  · exact h1
  · exact h2
  · exact h3 (h0 0 (by simp) (by omega))
/-- The new world of Commit. -/
def RetCr (w : World) (p : Nat) (r : RdV) (E : Int) (r' : RdV) (e : Ending) (w' : World) : Prop := e = .returned (.int .i64 E) ∧ Cr w' p r' ∧ Only (· = p) w w'
set_option maxRecDepth 100000 in
set_option maxHeartbeats 2000000 in
theorem commit_bad (p : Nat) (pl c : Int) (r : RdV) (w : World) (h : Cr w p r) (hk : r.k ≤ 8) (he : ¬ cmE r pl = 0) :
    Calls Try.prog 16 #[.pointer (some ⟨p, 0, none⟩), .int .i64 pl, .int .u64 c] w (RetCr w p r (cmE r pl) r) := by
  have HC := Lib.hid h
  have HF := Lib.hid (cm_first r pl)
  have HK := Lib.hid hk
  obtain ⟨E, hE⟩ : ∃ E, cmE r pl = E := ⟨_, rfl⟩
  rw [hE] at he ⊢
  have HE := Lib.hid hE
  have q1 : (E == 0) = false := by rw [beq_eq_false_iff_ne]; exact he
  clear h hE he hk
  go_enter Try.func16, Try.ntmps16
  go_wp2_with fail
  refine (missing_any p pl r _ ((HC.out.call (b_alloc (Below.refl _ _) _)).call (b_alloc (Below.refl _ _) _))).mono ?_
  rintro e w1 ⟨cap1, rfl, hA1, hb1⟩
  have HB1 : Below w.heap.size w w1 := by (repeat (first | (with_reducible exact Below.refl _ _) | (with_reducible assumption) | (with_reducible refine b_drew ?_) | (with_reducible refine b_drewN ?_ _) | (with_reducible refine b_alloc ?_ _) | ((with_reducible refine b_set ?_ ?_ _); rotate_left; (focus (first | omega | (simp; done) | (simp; omega) | (simp at *; omega)))) | (with_reducible refine b_call ?_ (by with_reducible assumption))))
  have x3 : w1.cell? ⟨w.heap.size, 0, none⟩ = some (.pointer (some ⟨p, 0, none⟩)) := cell_keep hb1 (by simp)
  have x4 : w1.cell? ⟨w.heap.size + 1, 0, none⟩ = some (.int .i64 pl) := cell_keep hb1 (by simp)
  have HA1 := Lib.hid hA1
  clear hA1 hb1
  go_wp2_with fail
  refine (when_any _ 20 _ ⟨_, _, rfl⟩).mono ?_
  rintro e w2 ⟨cap2, rfl, hA2, hb2⟩
  have HA2 := Lib.hid (hA2 r.o (Ans.mk' (fun args w => run_enter Try.func41 (by kernel_rfl) rfl args w) fun W hW => closed_any _ p r W (cell_keep hW x3) ((HC.out.call HB1).call hW)))
  have HA1' := Lib.hid (HA1.out.keep hb2)
  have y3 := cell_keep hb2 x3
  have y4 := cell_keep hb2 x4
  have HB2 : Below w.heap.size w w2 := b_call HB1 hb2
  clear hA2 HA1 x3 x4 HB1
  go_wp2_with fail
  refine (when_any _ 4 _ ⟨_, _, rfl⟩).mono ?_
  rintro e w3 ⟨cap3, rfl, hA3, hb3⟩
  have HA3 := Lib.hid (show (if badP r.k pl then (17 : Int) else 0) = 0 → Ans w3 (.func (.func 56) #[] cap3) (.int .i64 (if (r.st pl.toNat).c then 4 else 0)) from fun hz => by
    obtain ⟨q, rfl, hq⟩ := good_of hz
    refine hA3 (r.st q).c (Ans.mk' (fun args w => run_enter Try.func42 (by kernel_rfl) rfl args w) fun W hW => ?_)
    exact done_any _ _ p q r W (cell_keep hW y3) (cell_keep hW y4) ((HC.out.call HB2).call hW) (by have := HK.out; omega))
  have HA1 := Lib.hid (HA1'.out.keep hb3)
  have HA2' := Lib.hid (HA2.out.keep hb3)
  have HB3 : Below w.heap.size w w3 := b_call HB2 hb3
  clear hA3 HA1' HA2 y3 y4 HB2 hb2 hb3
  go_wp2_with fail
  refine (first_any _ 3 3 _ (cmCodes r pl) _ (rd_lit w3 _ _ rfl rfl) rfl (by omega) (ans3 (HA1.out.keep (b_alloc (Below.refl _ _) _)) (HA2'.out.keep (b_alloc (Below.refl _ _) _)) (fun hz => (HA3.out hz).keep (b_alloc (Below.refl _ _) _)))).mono ?_
  rintro e w4 ⟨rfl, hb4⟩
  rw [HF.out, HE.out]
  have HB4 : Below w.heap.size w w4 := by (repeat (first | (with_reducible exact Below.refl _ _) | (with_reducible assumption) | (with_reducible refine b_drew ?_) | (with_reducible refine b_drewN ?_ _) | (with_reducible refine b_alloc ?_ _) | ((with_reducible refine b_set ?_ ?_ _); rotate_left; (focus (first | omega | (simp; done) | (simp; omega) | (simp at *; omega)))) | (with_reducible refine b_call ?_ (by with_reducible assumption))))
  clear hb4
  go_wp2
  go_ret
  exact ⟨rfl, HC.out.call HB4, Only.of_below HB4 _ (fun k h1 h2 => by omega)⟩
set_option maxRecDepth 100000 in
set_option maxHeartbeats 2000000 in
theorem commit_ok (g q : Nat) (c : Int) (r : RdV) (w : World) (h : Cr w g r) (hk : r.k ≤ 8) (he : cmE r q = 0) :
    Calls Try.prog 16 #[.pointer (some ⟨g, 0, none⟩), .int .i64 q, .int .u64 c] w (RetCr w g r 0 (cmR r q c)) := by
  have HC := Lib.hid h
  have HF := Lib.hid (cm_first r q)
  have HK := Lib.hid hk
  have HE := Lib.hid he
  obtain ⟨hq, hq8⟩ : q < r.k ∧ q < 8 := by
    unfold cmE badP at he
    by_cases hc : (q : Int) < 0 ∨ (r.k : Int) ≤ q
    · rw [decide_eq_true hc] at he
      simp at he
    · omega
  clear h he hk hq
  go_enter Try.func16, Try.ntmps16
  go_wp2_with fail
  refine (missing_any g q r _ ((HC.out.call (b_alloc (Below.refl _ _) _)).call (b_alloc (Below.refl _ _) _))).mono ?_
  rintro e w1 ⟨cap1, rfl, hA1, hb1⟩
  have HB1 : Below w.heap.size w w1 := by (repeat (first | (with_reducible exact Below.refl _ _) | (with_reducible assumption) | (with_reducible refine b_drew ?_) | (with_reducible refine b_drewN ?_ _) | (with_reducible refine b_alloc ?_ _) | ((with_reducible refine b_set ?_ ?_ _); rotate_left; (focus (first | omega | (simp; done) | (simp; omega) | (simp at *; omega)))) | (with_reducible refine b_call ?_ (by with_reducible assumption))))
  have x3 : w1.cell? ⟨w.heap.size, 0, none⟩ = some (.pointer (some ⟨g, 0, none⟩)) := cell_keep hb1 (by simp)
  have x4 : w1.cell? ⟨w.heap.size + 1, 0, none⟩ = some (.int .i64 q) := cell_keep hb1 (by simp)
  have HA1 := Lib.hid hA1
  clear hA1 hb1
  go_wp2_with fail
  refine (when_any _ 20 _ ⟨_, _, rfl⟩).mono ?_
  rintro e w2 ⟨cap2, rfl, hA2, hb2⟩
  have HA2 := Lib.hid (hA2 r.o (Ans.mk' (fun args w => run_enter Try.func41 (by kernel_rfl) rfl args w) fun W hW => closed_any _ g r W (cell_keep hW x3) ((HC.out.call HB1).call hW)))
  have HA1' := Lib.hid (HA1.out.keep hb2)
  have y3 := cell_keep hb2 x3
  have y4 := cell_keep hb2 x4
  have HB2 : Below w.heap.size w w2 := b_call HB1 hb2
  clear hA2 HA1 x3 x4 HB1
  go_wp2_with fail
  refine (when_any _ 4 _ ⟨_, _, rfl⟩).mono ?_
  rintro e w3 ⟨cap3, rfl, hA3, hb3⟩
  have HA3 := Lib.hid (show (if badP r.k q then (17 : Int) else 0) = 0 → Ans w3 (.func (.func 56) #[] cap3) (.int .i64 (if (r.st q).c then 4 else 0)) from fun hz => by
    refine hA3 (r.st q).c (Ans.mk' (fun args w => run_enter Try.func42 (by kernel_rfl) rfl args w) fun W hW => ?_)
    exact done_any _ _ g q r W (cell_keep hW y3) (cell_keep hW y4) ((HC.out.call HB2).call hW) hq8)
  have HA1 := Lib.hid (HA1'.out.keep hb3)
  have HA2' := Lib.hid (HA2.out.keep hb3)
  have HB3 : Below w.heap.size w w3 := b_call HB2 hb3
  have z3 := cell_keep hb3 y3
  have z4 := cell_keep hb3 y4
  clear hA3 HA1' HA2 y3 y4 HB2 hb2 hb3
  go_wp2_with fail
  refine (first_any _ 3 3 _ (cmCodes r q) _ (rd_lit w3 _ _ rfl rfl) rfl (by omega) (ans3 (HA1.out.keep (b_alloc (Below.refl _ _) _)) (HA2'.out.keep (b_alloc (Below.refl _ _) _)) (fun hz => (HA3.out hz).keep (b_alloc (Below.refl _ _) _)))).mono ?_
  rintro e w4 ⟨rfl, hb4⟩
  rw [HF.out, HE.out]
  have hb4' : Below w3.heap.size w3 w4 := by (repeat (first | (with_reducible exact Below.refl _ _) | (with_reducible assumption) | (with_reducible refine b_drew ?_) | (with_reducible refine b_drewN ?_ _) | (with_reducible refine b_alloc ?_ _) | ((with_reducible refine b_set ?_ ?_ _); rotate_left; (focus (first | omega | (simp; done) | (simp; omega) | (simp at *; omega)))) | (with_reducible refine b_call ?_ (by with_reducible assumption))))
  have HB4 : Below w.heap.size w w4 := b_call HB3 hb4'
  have HR := Lib.hid (HC.out.call HB4)
  have x3 : w4.cell? ⟨w.heap.size, 0, none⟩ = some (.pointer (some ⟨g, 0, none⟩)) := cell_keep hb4' z3
  have x4 : w4.cell? ⟨w.heap.size + 1, 0, none⟩ = some (.int .i64 q) := cell_keep hb4' z4
  have hp4 := HR.out.facts.2.2.2.1
  have hp0 := HC.out.facts.2.2.2.1
  have hf4 := HR.out.facts.2.2.2.2
  have b1 : (0 : Int) ≤ (q : Int) := by omega
  have b2 : (q : Int) < 8 := by omega
  have hn3 : ¬ w.heap.size = g := by omega
  have hn4 : ¬ w.heap.size + 1 = g := by omega
  have hl := hb4'.size
  have hl3 := HB3.size
  have hs3 := World.block_lt_of_cell? w4 _ x3
  have hs4 := World.block_lt_of_cell? w4 _ x4
  simp only at hs3 hs4
  clear hb4 hb4' z3 z4 HA1 HA2' HA3 HB3 HF HE hl hl3
  go_wp2
  refine wp_region_any (by kernel_rfl) ?_
  change wpAny _ _ _ _ _ _ _ (World.drew _)
  refine take_at (i := 4) (some 23) (v := ?vg2) rfl rfl (by kernel_rfl) (by kernel_rfl) (by kernel_rfl) (fun _ _ _ h => h) (Or.inl ⟨by rfl, ?hg2⟩) ?rg2
  case hg2 => (intro w0; go_simp; try with_reducible rfl)
  simp only [Act.put, List.setIfInBounds_toArray, List.set_cons_zero, List.set_cons_succ]
  refine wpAny_go (fun A0 L a w => ∃ v19 v20 v21 v22 v24 v25 v26 v27 v28 v29 v30 v31 : Value, a = fr A0 [(19, v19), (20, v20), (21, v21), (22, v22), (24, v24), (25, v25), (26, v26), (27, v27), (28, v28), (29, v29), (30, v30), (31, v31)] ∧ (L 14 = true → L 9 = true) ∧ (Only (· = g) w4 w) ∧ (Hid (Cr w g (if L 14 then cmR r q c else if L 9 then cmR1 r q else r))) ∧ Hid (L 0 = true → v19 = Value.pointer (some ⟨g, 0, none⟩)) ∧ Hid (L 1 = true → v20 = Value.int .i64 q) ∧ Hid (L 2 = true → v21 = Value.pointer (some ⟨g, 0, none⟩)) ∧ Hid (L 3 = true → v22 = Value.int .i64 q) ∧ Hid (L 5 = true → v24 = Value.pointer (some ⟨g, 0, none⟩)) ∧ Hid (L 6 = true → v25 = Value.pointer (some ⟨g, 3, none⟩)) ∧ Hid (L 7 = true → v26 = Value.pointer (some ⟨g, 3 + q * 6, none⟩)) ∧ Hid (L 8 = true → v27 = Value.pointer (some ⟨g, 3 + q * 6, none⟩)) ∧ Hid (L 10 = true → v28 = Value.pointer (some ⟨g, 0, none⟩)) ∧ Hid (L 11 = true → v29 = Value.pointer (some ⟨g, 3, none⟩)) ∧ Hid (L 12 = true → v30 = Value.pointer (some ⟨g, 3 + q * 6, none⟩)) ∧ Hid (L 13 = true → v31 = Value.pointer (some ⟨g, 3 + q * 6 + 2, none⟩))) [0, 1, 2, 3, 5, 6, 7, 8, 9, 10, 11, 12, 13, 14] (by kernel_rfl) (by kernel_rfl) ?a1I ?a1S ?a1D
  case a1I =>
    refine ⟨?v19, ?v20, ?v21, ?v22, ?v24, ?v25, ?v26, ?v27, ?v28, ?v29, ?v30, ?v31, ?fr, no_yet (by kernel_rfl), (Only.refl _ _).drew, HR, Lib.hid (no_yet (by kernel_rfl)), Lib.hid (no_yet (by kernel_rfl)), Lib.hid (no_yet (by kernel_rfl)), Lib.hid (no_yet (by kernel_rfl)), Lib.hid (no_yet (by kernel_rfl)), Lib.hid (no_yet (by kernel_rfl)), Lib.hid (no_yet (by kernel_rfl)), Lib.hid (no_yet (by kernel_rfl)), Lib.hid (no_yet (by kernel_rfl)), Lib.hid (no_yet (by kernel_rfl)), Lib.hid (no_yet (by kernel_rfl)), Lib.hid (no_yet (by kernel_rfl))⟩
    case fr => (simp only [fr, List.foldl_cons, List.foldl_nil, Act.put, List.setIfInBounds_toArray, List.set_cons_zero, List.set_cons_succ]; rfl)
  case a1S =>
    refine Steps.go (i := 0) (o := _) rfl ?s0 (Steps.go (i := 1) (o := _) rfl ?s1 (Steps.go (i := 2) (o := _) rfl ?s2 (Steps.go (i := 3) (o := _) rfl ?s3 (Steps.go (i := 5) (o := _) rfl ?s5 (Steps.go (i := 6) (o := _) rfl ?s6 (Steps.go (i := 7) (o := _) rfl ?s7 (Steps.go (i := 8) (o := _) rfl ?s8 (Steps.go (i := 9) (o := _) rfl ?s9 (Steps.go (i := 10) (o := _) rfl ?s10 (Steps.go (i := 11) (o := _) rfl ?s11 (Steps.go (i := 12) (o := _) rfl ?s12 (Steps.go (i := 13) (o := _) rfl ?s13 (Steps.go (i := 14) (o := _) rfl ?s14 Steps.nil)))))))))))))
    · rintro L a w h0 hd ⟨v19, v20, v21, v22, v24, v25, v26, v27, v28, v29, v30, v31, rfl, hX, hO, hV, f0, f1, f2, f3, f5, f6, f7, f8, f10, f11, f12, f13⟩ K hK
      simp only [fr, List.foldl_cons, List.foldl_nil, Act.put, List.setIfInBounds_toArray, List.set_cons_zero, List.set_cons_succ]
      have z3 := cell_keepG hO hn3 x3
      have z4 := cell_keepG hO hn4 x4
      go_simp
      exact hK _ _ ⟨(Value.pointer (some ⟨g, 0, none⟩)), v20, v21, v22, v24, v25, v26, v27, v28, v29, v30, v31, (by simp only [fr, List.foldl_cons, List.foldl_nil, Act.put, List.setIfInBounds_toArray, List.set_cons_zero, List.set_cons_succ]), hX, hO, hV, Lib.hid (fun _ => rfl), f1, f2, f3, f5, f6, f7, f8, f10, f11, f12, f13⟩
    · rintro L a w h0 hd ⟨v19, v20, v21, v22, v24, v25, v26, v27, v28, v29, v30, v31, rfl, hX, hO, hV, f0, f1, f2, f3, f5, f6, f7, f8, f10, f11, f12, f13⟩ K hK
      simp only [fr, List.foldl_cons, List.foldl_nil, Act.put, List.setIfInBounds_toArray, List.set_cons_zero, List.set_cons_succ]
      have z3 := cell_keepG hO hn3 x3
      have z4 := cell_keepG hO hn4 x4
      go_simp
      exact hK _ _ ⟨v19, (Value.int .i64 q), v21, v22, v24, v25, v26, v27, v28, v29, v30, v31, (by simp only [fr, List.foldl_cons, List.foldl_nil, Act.put, List.setIfInBounds_toArray, List.set_cons_zero, List.set_cons_succ]), hX, hO, hV, f0, Lib.hid (fun _ => rfl), f2, f3, f5, f6, f7, f8, f10, f11, f12, f13⟩
    · rintro L a w h0 hd ⟨v19, v20, v21, v22, v24, v25, v26, v27, v28, v29, v30, v31, rfl, hX, hO, hV, f0, f1, f2, f3, f5, f6, f7, f8, f10, f11, f12, f13⟩ K hK
      simp only [fr, List.foldl_cons, List.foldl_nil, Act.put, List.setIfInBounds_toArray, List.set_cons_zero, List.set_cons_succ]
      have z3 := cell_keepG hO hn3 x3
      have z4 := cell_keepG hO hn4 x4
      go_simp
      exact hK _ _ ⟨v19, v20, (Value.pointer (some ⟨g, 0, none⟩)), v22, v24, v25, v26, v27, v28, v29, v30, v31, (by simp only [fr, List.foldl_cons, List.foldl_nil, Act.put, List.setIfInBounds_toArray, List.set_cons_zero, List.set_cons_succ]), hX, hO, hV, f0, f1, Lib.hid (fun _ => rfl), f3, f5, f6, f7, f8, f10, f11, f12, f13⟩
    · rintro L a w h0 hd ⟨v19, v20, v21, v22, v24, v25, v26, v27, v28, v29, v30, v31, rfl, hX, hO, hV, f0, f1, f2, f3, f5, f6, f7, f8, f10, f11, f12, f13⟩ K hK
      simp only [fr, List.foldl_cons, List.foldl_nil, Act.put, List.setIfInBounds_toArray, List.set_cons_zero, List.set_cons_succ]
      have z3 := cell_keepG hO hn3 x3
      have z4 := cell_keepG hO hn4 x4
      go_simp
      exact hK _ _ ⟨v19, v20, v21, (Value.int .i64 q), v24, v25, v26, v27, v28, v29, v30, v31, (by simp only [fr, List.foldl_cons, List.foldl_nil, Act.put, List.setIfInBounds_toArray, List.set_cons_zero, List.set_cons_succ]), hX, hO, hV, f0, f1, f2, Lib.hid (fun _ => rfl), f5, f6, f7, f8, f10, f11, f12, f13⟩
    · rintro L a w h0 hd ⟨v19, v20, v21, v22, v24, v25, v26, v27, v28, v29, v30, v31, rfl, hX, hO, hV, f0, f1, f2, f3, f5, f6, f7, f8, f10, f11, f12, f13⟩ K hK
      obtain rfl := f0.out (hd 0 (by kernel_rfl))
      simp only [fr, List.foldl_cons, List.foldl_nil, Act.put, List.setIfInBounds_toArray, List.set_cons_zero, List.set_cons_succ]
      go_simp
      exact hK _ _ ⟨(Value.pointer (some ⟨g, 0, none⟩)), v20, v21, v22, (Value.pointer (some ⟨g, 0, none⟩)), v25, v26, v27, v28, v29, v30, v31, (by simp only [fr, List.foldl_cons, List.foldl_nil, Act.put, List.setIfInBounds_toArray, List.set_cons_zero, List.set_cons_succ]), hX, hO, hV, f0, f1, f2, f3, Lib.hid (fun _ => rfl), f6, f7, f8, f10, f11, f12, f13⟩
    · rintro L a w h0 hd ⟨v19, v20, v21, v22, v24, v25, v26, v27, v28, v29, v30, v31, rfl, hX, hO, hV, f0, f1, f2, f3, f5, f6, f7, f8, f10, f11, f12, f13⟩ K hK
      obtain rfl := f5.out (hd 5 (by kernel_rfl))
      simp only [fr, List.foldl_cons, List.foldl_nil, Act.put, List.setIfInBounds_toArray, List.set_cons_zero, List.set_cons_succ]
      go_simp
      exact hK _ _ ⟨v19, v20, v21, v22, (Value.pointer (some ⟨g, 0, none⟩)), (Value.pointer (some ⟨g, 3, none⟩)), v26, v27, v28, v29, v30, v31, (by simp only [fr, List.foldl_cons, List.foldl_nil, Act.put, List.setIfInBounds_toArray, List.set_cons_zero, List.set_cons_succ]), hX, hO, hV, f0, f1, f2, f3, f5, Lib.hid (fun _ => rfl), f7, f8, f10, f11, f12, f13⟩
    · rintro L a w h0 hd ⟨v19, v20, v21, v22, v24, v25, v26, v27, v28, v29, v30, v31, rfl, hX, hO, hV, f0, f1, f2, f3, f5, f6, f7, f8, f10, f11, f12, f13⟩ K hK
      obtain rfl := f6.out (hd 6 (by kernel_rfl))
      obtain rfl := f1.out (hd 1 (by kernel_rfl))
      simp only [fr, List.foldl_cons, List.foldl_nil, Act.put, List.setIfInBounds_toArray, List.set_cons_zero, List.set_cons_succ]
      go_simp
      exact hK _ _ ⟨v19, (Value.int .i64 q), v21, v22, v24, (Value.pointer (some ⟨g, 3, none⟩)), (Value.pointer (some ⟨g, 3 + q * 6, none⟩)), v27, v28, v29, v30, v31, (by simp only [fr, List.foldl_cons, List.foldl_nil, Act.put, List.setIfInBounds_toArray, List.set_cons_zero, List.set_cons_succ]), hX, hO, hV, f0, f1, f2, f3, f5, f6, Lib.hid (fun _ => rfl), f8, f10, f11, f12, f13⟩
    · rintro L a w h0 hd ⟨v19, v20, v21, v22, v24, v25, v26, v27, v28, v29, v30, v31, rfl, hX, hO, hV, f0, f1, f2, f3, f5, f6, f7, f8, f10, f11, f12, f13⟩ K hK
      obtain rfl := f7.out (hd 7 (by kernel_rfl))
      simp only [fr, List.foldl_cons, List.foldl_nil, Act.put, List.setIfInBounds_toArray, List.set_cons_zero, List.set_cons_succ]
      go_simp
      exact hK _ _ ⟨v19, v20, v21, v22, v24, v25, (Value.pointer (some ⟨g, 3 + q * 6, none⟩)), (Value.pointer (some ⟨g, 3 + q * 6, none⟩)), v28, v29, v30, v31, (by simp only [fr, List.foldl_cons, List.foldl_nil, Act.put, List.setIfInBounds_toArray, List.set_cons_zero, List.set_cons_succ]), hX, hO, hV, f0, f1, f2, f3, f5, f6, f7, Lib.hid (fun _ => rfl), f10, f11, f12, f13⟩
    · rintro L a w h0 hd ⟨v19, v20, v21, v22, v24, v25, v26, v27, v28, v29, v30, v31, rfl, hX, hO, hV, f0, f1, f2, f3, f5, f6, f7, f8, f10, f11, f12, f13⟩ K hK
      obtain rfl := f8.out (hd 8 (by kernel_rfl))
      simp only [fr, List.foldl_cons, List.foldl_nil, Act.put, List.setIfInBounds_toArray, List.set_cons_zero, List.set_cons_succ]
      have e14 : L 14 = false := by rcases h : L 14 with _ | _ <;> first | rfl | exact absurd (hX h) (by simp [h0])
      have hV1 := hV.out
      simp only [e14, h0, Bool.false_eq_true, if_false] at hV1
      obtain ⟨z0, _, _⟩ := hV1.st hq8
      have hf := hV1.facts.2.2.2.2
      have HV1 := Lib.hid hV1
      clear hV1
      go_simp
      exact hK _ _ ⟨v19, v20, v21, v22, v24, v25, v26, (Value.pointer (some ⟨g, 3 + q * 6, none⟩)), v28, v29, v30, v31, (by simp only [fr, List.foldl_cons, List.foldl_nil, Act.put, List.setIfInBounds_toArray, List.set_cons_zero, List.set_cons_succ]), (fun _ => rfl), o_set hO _ _, Lib.hid (by have := cr_set0 HV1.out hq8; simpa [upd, e14] using this), f0, f1, f2, f3, f5, f6, f7, f8, f10, f11, f12, f13⟩
    · rintro L a w h0 hd ⟨v19, v20, v21, v22, v24, v25, v26, v27, v28, v29, v30, v31, rfl, hX, hO, hV, f0, f1, f2, f3, f5, f6, f7, f8, f10, f11, f12, f13⟩ K hK
      obtain rfl := f2.out (hd 2 (by kernel_rfl))
      simp only [fr, List.foldl_cons, List.foldl_nil, Act.put, List.setIfInBounds_toArray, List.set_cons_zero, List.set_cons_succ]
      go_simp
      exact hK _ _ ⟨v19, v20, (Value.pointer (some ⟨g, 0, none⟩)), v22, v24, v25, v26, v27, (Value.pointer (some ⟨g, 0, none⟩)), v29, v30, v31, (by simp only [fr, List.foldl_cons, List.foldl_nil, Act.put, List.setIfInBounds_toArray, List.set_cons_zero, List.set_cons_succ]), hX, hO, hV, f0, f1, f2, f3, f5, f6, f7, f8, Lib.hid (fun _ => rfl), f11, f12, f13⟩
    · rintro L a w h0 hd ⟨v19, v20, v21, v22, v24, v25, v26, v27, v28, v29, v30, v31, rfl, hX, hO, hV, f0, f1, f2, f3, f5, f6, f7, f8, f10, f11, f12, f13⟩ K hK
      obtain rfl := f10.out (hd 10 (by kernel_rfl))
      simp only [fr, List.foldl_cons, List.foldl_nil, Act.put, List.setIfInBounds_toArray, List.set_cons_zero, List.set_cons_succ]
      go_simp
      exact hK _ _ ⟨v19, v20, v21, v22, v24, v25, v26, v27, (Value.pointer (some ⟨g, 0, none⟩)), (Value.pointer (some ⟨g, 3, none⟩)), v30, v31, (by simp only [fr, List.foldl_cons, List.foldl_nil, Act.put, List.setIfInBounds_toArray, List.set_cons_zero, List.set_cons_succ]), hX, hO, hV, f0, f1, f2, f3, f5, f6, f7, f8, f10, Lib.hid (fun _ => rfl), f12, f13⟩
    · rintro L a w h0 hd ⟨v19, v20, v21, v22, v24, v25, v26, v27, v28, v29, v30, v31, rfl, hX, hO, hV, f0, f1, f2, f3, f5, f6, f7, f8, f10, f11, f12, f13⟩ K hK
      obtain rfl := f11.out (hd 11 (by kernel_rfl))
      obtain rfl := f3.out (hd 3 (by kernel_rfl))
      simp only [fr, List.foldl_cons, List.foldl_nil, Act.put, List.setIfInBounds_toArray, List.set_cons_zero, List.set_cons_succ]
      go_simp
      exact hK _ _ ⟨v19, v20, v21, (Value.int .i64 q), v24, v25, v26, v27, v28, (Value.pointer (some ⟨g, 3, none⟩)), (Value.pointer (some ⟨g, 3 + q * 6, none⟩)), v31, (by simp only [fr, List.foldl_cons, List.foldl_nil, Act.put, List.setIfInBounds_toArray, List.set_cons_zero, List.set_cons_succ]), hX, hO, hV, f0, f1, f2, f3, f5, f6, f7, f8, f10, f11, Lib.hid (fun _ => rfl), f13⟩
    · rintro L a w h0 hd ⟨v19, v20, v21, v22, v24, v25, v26, v27, v28, v29, v30, v31, rfl, hX, hO, hV, f0, f1, f2, f3, f5, f6, f7, f8, f10, f11, f12, f13⟩ K hK
      obtain rfl := f12.out (hd 12 (by kernel_rfl))
      simp only [fr, List.foldl_cons, List.foldl_nil, Act.put, List.setIfInBounds_toArray, List.set_cons_zero, List.set_cons_succ]
      go_simp
      exact hK _ _ ⟨v19, v20, v21, v22, v24, v25, v26, v27, v28, v29, (Value.pointer (some ⟨g, 3 + q * 6, none⟩)), (Value.pointer (some ⟨g, 3 + q * 6 + 2, none⟩)), (by simp only [fr, List.foldl_cons, List.foldl_nil, Act.put, List.setIfInBounds_toArray, List.set_cons_zero, List.set_cons_succ]), hX, hO, hV, f0, f1, f2, f3, f5, f6, f7, f8, f10, f11, f12, Lib.hid (fun _ => rfl)⟩
    · rintro L a w h0 hd ⟨v19, v20, v21, v22, v24, v25, v26, v27, v28, v29, v30, v31, rfl, hX, hO, hV, f0, f1, f2, f3, f5, f6, f7, f8, f10, f11, f12, f13⟩ K hK
      obtain rfl := f13.out (hd 13 (by kernel_rfl))
      have d9 := hd 9 (by kernel_rfl)
      simp only [fr, List.foldl_cons, List.foldl_nil, Act.put, List.setIfInBounds_toArray, List.set_cons_zero, List.set_cons_succ]
      have hV1 := hV.out
      simp only [d9, h0, Bool.false_eq_true, if_false, if_true] at hV1
      obtain ⟨_, _, z2⟩ := hV1.st hq8
      have hf := hV1.facts.2.2.2.2
      have HV1 := Lib.hid hV1
      clear hV1
      go_simp
      exact hK _ _ ⟨v19, v20, v21, v22, v24, v25, v26, v27, v28, v29, v30, (Value.pointer (some ⟨g, 3 + q * 6 + 2, none⟩)), (by simp only [fr, List.foldl_cons, List.foldl_nil, Act.put, List.setIfInBounds_toArray, List.set_cons_zero, List.set_cons_succ]), (fun _ => d9), o_set hO _ _, Lib.hid (by have := cr_set2 HV1.out hq8 c; simpa [upd] using this), f0, f1, f2, f3, f5, f6, f7, f8, f10, f11, f12, f13⟩
  case a1D =>
    rintro L a w hL ⟨v19, v20, v21, v22, v24, v25, v26, v27, v28, v29, v30, v31, rfl, hX, hO, hV, f0, f1, f2, f3, f5, f6, f7, f8, f10, f11, f12, f13⟩
    obtain rfl := f0.out (hL 0 (by decide))
    obtain rfl := f1.out (hL 1 (by decide))
    obtain rfl := f2.out (hL 2 (by decide))
    obtain rfl := f3.out (hL 3 (by decide))
    obtain rfl := f5.out (hL 5 (by decide))
    obtain rfl := f6.out (hL 6 (by decide))
    obtain rfl := f7.out (hL 7 (by decide))
    obtain rfl := f8.out (hL 8 (by decide))
    obtain rfl := f10.out (hL 10 (by decide))
    obtain rfl := f11.out (hL 11 (by decide))
    obtain rfl := f12.out (hL 12 (by decide))
    obtain rfl := f13.out (hL 13 (by decide))
    have l9 := hL 9 (by decide)
    have l14 := hL 14 (by decide)
    simp only [fr, List.foldl_cons, List.foldl_nil, Act.put, List.setIfInBounds_toArray, List.set_cons_zero, List.set_cons_succ]
    have hV1 := hV.out
    simp only [l14, if_true] at hV1
    go_wp2
    go_ret
    exact ⟨rfl, hV1, o_call (Only.of_below HB4 _ (fun k h1 h2 => by omega)) hO⟩
end Go.Proofs.Ytojmkfhinkmhaaa
