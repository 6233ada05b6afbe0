/-
  WHAT IS PROVED HERE: keys of package merkle's maps; a partial tree in memory; map operations as steps of a region that draws its order. No condition beyond what each theorem states.
-/
import Derived.Test.YtgelhcgaacnjcaaMkV
import Derived.Test.YtgelhcgaacnjcaaMapV
import Derived.DeepKeys5
import Derived.Maps.Keyed
namespace Go.Proofs.Ytgelhcgaacnjcaa
set_option linter.unusedVariables false
open Go.ChangeShapes Go.WideShapes Go.ChangeAt Go.RowKit
open Go.Maps (Keyed)

theorem keyInt : Keyed Try.prog 3 := Go.Maps.int_keyed Try.underlying3
theorem keyPlace : Keyed Try.prog 64 := Keyed.of_law (deep_law_gate (by kernel_rfl) (of_decide_eq_true (by kernel_rfl)) (of_decide_eq_true (by kernel_rfl)) (by kernel_rfl) (by kernel_rfl))
/-- the key of a place -/
def plL (l i : Int) : Lit := .string (keyBytes [.int .i64 l, .int .i64 i])
theorem i64_wf {x : Int} (h : I64 x) : (Lit.int .i64 x).wf = true := by
  unfold Lit.wf
  simp only [Bool.and_eq_true, decide_eq_true_eq]
  exact ⟨h.1, h.2⟩
theorem key_int {i : Int} (hi : I64 i) : keyOf Try.prog 3 (.int .i64 i) = some (.int .i64 i) := by
  have h2 := i64_wf hi
  rw [keyOf_int Try.underlying3]
  simp [mapKey, Try.underlying3, h2]
theorem lits_int {i : Int} (hi : I64 i) (d : Nat) : Try.prog.keyLits (d + 1) 3 [.int .i64 i] = some [.int .i64 i] := by
  have h2 := i64_wf hi
  simp [Program.keyLits, Try.underlying3, h2]
theorem cellsInt : Try.prog.cellsOf 3 = 1 := by kernel_rfl
theorem cellsPlace : Try.prog.cellsOf 64 = 2 := by kernel_rfl
theorem lits_place {l i : Int} (hl : I64 l) (hi : I64 i) (d : Nat) : Try.prog.keyLits (d + 2) 64 [.int .i64 l, .int .i64 i] = some [.int .i64 l, .int .i64 i] := by
  have h1 := lits_int hl d
  have h2 := lits_int hi d
  unfold Program.keyLits
  rw [Try.underlying64]
  dsimp only
  rw [cellsPlace]
  simp [cellsInt, h1, h2]
theorem key_place {l i : Int} (hl : I64 l) (hi : I64 i) : keyOf Try.prog 64 (.agg #[.int .i64 l, .int .i64 i]) = some (plL l i) := by
  have hk : Try.prog.keyType 64 = true := by kernel_rfl
  have hf : Value.formed Try.prog 64 (.agg #[.int .i64 l, .int .i64 i]) = true := by
    unfold Value.formed
    rw [Try.underlying64, cellsPlace]
    rfl
  obtain ⟨d, hd⟩ : ∃ d, Try.prog.types.size + 1 = d + 2 := ⟨Try.prog.types.size - 1, by have : 1 ≤ Try.prog.types.size := of_decide_eq_true (by kernel_rfl); omega⟩
  unfold keyOf
  rw [Try.underlying64]
  simp only [hk, hf, Bool.and_self, if_true]
  rw [hd]
  show Option.map _ (Try.prog.keyLits (d + 2) 64 [.int .i64 l, .int .i64 i]) = _
  rw [lits_place hl hi d]
  rfl
theorem plL_inj {l i l' i' : Nat} (h1 : l ≤ 1000000000) (h2 : i ≤ 1000000000) (h3 : l' ≤ 1000000000) (h4 : i' ≤ 1000000000) (h : plL l i = plL l' i') : l = l' ∧ i = i' := by
  have a1 : I64 (l : Int) := by unfold I64; omega
  have a2 : I64 (i : Int) := by unfold I64; omega
  have a3 : I64 (l' : Int) := by unfold I64; omega
  have a4 : I64 (i' : Int) := by unfold I64; omega
  have e := keyPlace.inj (key_place a1 a2) (h ▸ key_place a3 a4)
  simp only [Value.agg.injEq, Array.mk.injEq, List.cons.injEq, Value.int.injEq, true_and, and_true] at e
  omega

/-! ### The two maps -/
open Classical in
/-- M, but v at k. -/
noncomputable def putM (M : Lit → Option Int) (k : Lit) (v : Int) : Lit → Option Int := fun x => if x = k then some v else M x
theorem putM_same (M : Lit → Option Int) (k : Lit) (v : Int) : putM M k v k = some v := if_pos rfl
theorem putM_other (M : Lit → Option Int) {k x : Lit} (v : Int) (h : x ≠ k) : putM M k v x = M x := if_neg h
theorem putM_put (M : Lit → Option Int) (k : Lit) (v : Int) (f : Int → Value) : putF (fun x => (M x).map f) k (some (f v)) = fun x => (putM M k v x).map f := by
  funext x
  by_cases h : x = k
  · subst h
    rw [putF_same, putM_same]
    rfl
  · rw [putF_other _ _ h, putM_other _ _ h]
def kI (i : Int) : Lit := .int .i64 i
theorem kI_inj {i j : Int} (h : kI i = kI j) : i = j := by unfold kI at h; injection h
theorem zInt (w : World) : (zeroValue 3).run Try.prog w = .ok (.int .i64 0) w := by kernel_rfl
theorem zU64 (w : World) : (zeroValue 22).run Try.prog w = .ok (.int .u64 0) w := by kernel_rfl
def MI (w : World) (b n : Nat) (C : Lit → Option Int) : Prop := MapV w Try.prog 3 b n (fun x => (C x).map (Value.int .i64))
def MU (w : World) (b n : Nat) (M : Lit → Option Int) : Prop := MapV w Try.prog 64 b n (fun x => (M x).map (Value.int .u64))
section
variable {w w' : World} {b n : Nat} {M : Lit → Option Int}
theorem MI.lt (h : MI w b n M) : b < w.heap.size := MapV.lt h
theorem MU.lt (h : MU w b n M) : b < w.heap.size := MapV.lt h
theorem MI.same (h : MI w b n M) (hb : w'.heap[b]? = w.heap[b]?) : MI w' b n M := MapV.same h hb
theorem MU.same (h : MU w b n M) (hb : w'.heap[b]? = w.heap[b]?) : MU w' b n M := MapV.same h hb
theorem MI.call (h : MI w b n M) (hb : Below w.heap.size w w') : MI w' b n M := MapV.call h hb
theorem MU.call (h : MU w b n M) (hb : Below w.heap.size w w') : MU w' b n M := MapV.call h hb
theorem MI.only {G : Nat → Prop} (h : MI w b n M) (hb : Only G w w') (hB : ¬ G b) : MI w' b n M := MapV.only h hb hB
theorem MU.only {G : Nat → Prop} (h : MU w b n M) (hb : Only G w w') (hB : ¬ G b) : MU w' b n M := MapV.only h hb hB
theorem MI.drew (h : MI w b n M) : MI w.drew b n M := h
theorem MU.drew (h : MU w b n M) : MU w.drew b n M := h
theorem MI.mono (h : MI w b n M) {n' : Nat} (hn : n ≤ n') : MI w b n' M := MapV.mono h hn
theorem MU.mono (h : MU w b n M) {n' : Nat} (hn : n ≤ n') : MU w b n' M := MapV.mono h hn
theorem map_getD {A : Option Int} {f : Int → Value} : (A.map f).getD (f 0) = f (A.getD 0) := by cases A <;> rfl
end
section
variable {o : Oper} {a : Go.Act} {w : World} {K : Go.Act → World → Prop} {Q : Exit → Go.Act → World → Prop} {b n : Nat} {M : Lit → Option Int}
/-- 'm[i] = v' on the cells -/
theorem step_storeI (hd : o.dst = none) (m x v : Operand) (hop : o.op = Op.mapUpdate 74 m x v) (hm : a.eval m = .map (some b)) (h : MI w b n M) (hn : n < maxLen) {i y : Int} (hx : a.eval x = .int .i64 i) (hv : a.eval v = .int .i64 y) (hi : I64 i)
    (hK : ∀ w', MI w' b (n + 1) (putM M (kI i) y) → Only (· = b) w w' → K a w') : o.wp Try.prog a w K Q := by
  obtain ⟨w', hrun, r1, r2⟩ := MapV.store (t := 74) h keyInt Try.underlying74 hn (key_int hi) (val := .int .i64 y)
  rw [putM_put] at r1
  unfold Oper.wp
  simp [execOp, hop, hm, hx, hv, hrun, Result.andThen]
  have e : a.put o.dst undef = a := by rw [hd]; rfl
  have hk := hK w' r1 r2
  rw [← e] at hk
  exact hk
/-- 'm[p] = v' on the nodes -/
theorem step_storeU (hd : o.dst = none) (m x v : Operand) (hop : o.op = Op.mapUpdate 75 m x v) (hm : a.eval m = .map (some b)) (h : MU w b n M) (hn : n < maxLen) {l i y : Int} (hx : a.eval x = .agg #[.int .i64 l, .int .i64 i]) (hv : a.eval v = .int .u64 y) (hl : I64 l) (hi : I64 i)
    (hK : ∀ w', MU w' b (n + 1) (putM M (plL l i) y) → Only (· = b) w w' → K a w') : o.wp Try.prog a w K Q := by
  obtain ⟨w', hrun, r1, r2⟩ := MapV.store (t := 75) h keyPlace Try.underlying75 hn (key_place hl hi) (val := .int .u64 y)
  rw [putM_put] at r1
  unfold Oper.wp
  simp [execOp, hop, hm, hx, hv, hrun, Result.andThen]
  have e : a.put o.dst undef = a := by rw [hd]; rfl
  have hk := hK w' r1 r2
  rw [← e] at hk
  exact hk
/-- an element of a map literal on the nodes -/
theorem wpList_insU {ops : Array Oper} {rest : List Oper} {Q : Exit → Go.Act → World → Prop} (hg : o.guard = none) (m x v : Operand) (hop : o.op = Op.insert 75 m x v) (hm : a.eval m = .map (some b)) (h : MU w b n M) (hn : n < maxLen) {l i y : Int} (hx : a.eval x = .agg #[.int .i64 l, .int .i64 i]) (hv : a.eval v = .int .u64 y) (hl : I64 l) (hi : I64 i)
    (hK : ∀ w', MU w' b (n + 1) (putM M (plL l i) y) → Only (· = b) w w' → wpList Try.prog ops Q rest (a.put o.dst undef) w') : wpList Try.prog ops Q (o :: rest) a w := by
  refine wpList_plain hg fun K' hK' => ?_
  obtain ⟨w', hrun, r1, r2⟩ := MapV.store (t := 75) h keyPlace Try.underlying75 hn (key_place hl hi) (val := .int .u64 y)
  rw [putM_put] at r1
  unfold Oper.wp
  simp [execOp, hop, hm, hx, hv, hrun, Result.andThen]
  exact hK' _ _ (hK w' r1 r2)
/-- 'm[p]' on the nodes -/
theorem step_lookU (d : Tmp) (hd : o.dst = some d) (m x : Operand) (hop : o.op = Op.lookup 75 m x false) (hm : a.eval m = .map (some b)) (h : MU w b n M) {l i y : Int} (hx : a.eval x = .agg #[.int .i64 l, .int .i64 i]) (hl : I64 l) (hi : I64 i) (hy : (M (plL l i)).getD 0 = y)
    (hK : K (a.put (some d) (.int .u64 y)) w) : o.wp Try.prog a w K Q := by
  have hrun := MapV.look (t := 75) h keyPlace Try.underlying75 (zU64 w) (key_place hl hi)
  simp only [map_getD, hy] at hrun
  unfold Oper.wp
  simp [execOp, hop, hm, hx, hrun, Result.andThen]
  rw [← hd] at hK
  exact hK
/-- 'v, ok := m[i]' on the cells -/
theorem step_lookI (d : Tmp) (hd : o.dst = some d) (m x : Operand) (hop : o.op = Op.lookup 74 m x true) (hm : a.eval m = .map (some b)) (h : MI w b n M) {i y : Int} {q : Bool} (hx : a.eval x = .int .i64 i) (hi : I64 i) (hy : (M (kI i)).getD 0 = y) (hq : (M (kI i)).isSome = q)
    (hK : K (a.put (some d) (.tuple #[.int .i64 y, .bool q])) w) : o.wp Try.prog a w K Q := by
  have hrun := MapV.look_ok (t := 74) h keyInt Try.underlying74 (zInt w) (key_int hi)
  unfold kI at hy hq
  simp only [map_getD, hy, Option.isSome_map, hq] at hrun
  unfold Oper.wp
  simp [execOp, hop, hm, hx, hrun, Result.andThen]
  rw [← hd] at hK
  exact hK
end

/-! ### A partial tree in memory -/
structure Par (w : World) (g bc bn h n : Nat) (C M : Lit → Option Int) : Prop where
  V : Vr w g 77 #[.int .i64 (h : Nat), .map (some bc), .map (some bn)]
  C : MI w bc n C
  N : MU w bn n M
  gc : g ≠ bc
  gn : g ≠ bn
  cn : bc ≠ bn
section
variable {w w' : World} {g bc bn h n : Nat} {C M : Lit → Option Int}
theorem Par.call (H : Par w g bc bn h n C M) (hb : Below w.heap.size w w') : Par w' g bc bn h n C M := ⟨H.V.call hb, H.C.call hb, H.N.call hb, H.gc, H.gn, H.cn⟩
theorem Par.only {F : Nat → Prop} (H : Par w g bc bn h n C M) (hO : Only F w w') (hn : ∀ k, TF g bc bn k → ¬ F k) : Par w' g bc bn h n C M :=
  ⟨H.V.only hO (hn _ (.inl rfl)), H.C.only hO (hn _ (.inr (.inl rfl))), H.N.only hO (hn _ (.inr (.inr rfl))), H.gc, H.gn, H.cn⟩
theorem Par.mono (H : Par w g bc bn h n C M) {n' : Nat} (hn : n ≤ n') : Par w g bc bn h n' C M := ⟨H.V, H.C.mono hn, H.N.mono hn, H.gc, H.gn, H.cn⟩
theorem run_lookI (H : MI w bc n C) {i y : Int} {q : Bool} (hi : I64 i) (hy : (C (kI i)).getD 0 = y) (hq : (C (kI i)).isSome = q) : (Instr.lookup 74 (.map (some bc)) (.int .i64 i) true).run Try.prog w = .ok (.tuple #[.int .i64 y, .bool q]) w := by
  have hrun := MapV.look_ok (t := 74) H keyInt Try.underlying74 (zInt w) (key_int hi)
  unfold kI at hy hq
  simp only [map_getD, hy, Option.isSome_map, hq] at hrun
  exact hrun
set_option maxHeartbeats 1000000 in
theorem proot_any (W0 : World) (H : Par W0 g bc bn h n C M) (hh : h ≤ 100) : Calls Try.prog 29 #[.pointer (some ⟨g, 0, none⟩)] W0 fun e w' => e = .returned (.int .u64 ((M (plL h 0)).getD 0)) ∧ Below W0.heap.size W0 w' := by
  have z0 : W0.cell? ⟨g, 0, none⟩ = some (.int .i64 h) := H.V.cell 0
  have z2 : W0.cell? ⟨g, 2, none⟩ = some (.map (some bn)) := H.V.cell 2
  have HN := Lib.hid H.N
  have HI := Lib.hid (show I64 (h : Int) ∧ I64 (0 : Int) from ⟨by unfold I64; omega, by unfold I64; omega⟩)
  obtain ⟨y, hy⟩ : ∃ y, (M (plL h 0)).getD 0 = y := ⟨_, rfl⟩
  rw [hy]
  have HY := Lib.hid hy
  clear hy H
  go_enter Try.func29, Try.ntmps29
  go_wp2_with fail
  refine wp_region_any (by kernel_rfl) ?_
  change wpAny _ _ _ _ _ _ _ (World.drew _)
  refine wpAny_go (fun A0 L aa w => ∃ (v3 v4 v5 v6 v7 v8 v9 v10 v11 v12 v2 : Value), aa = fr A0 [(3, v3), (4, v4), (5, v5), (6, v6), (7, v7), (8, v8), (9, v9), (10, v10), (11, v11), (12, v12), (2, v2)] ∧ (Only (fun _ => False) W0 w) ∧ Hid (L 0 = true → v3 = Value.pointer (some ⟨g, 0, none⟩)) ∧ Hid (L 1 = true → v4 = Value.pointer (some ⟨g, 0, none⟩)) ∧ Hid (L 2 = true → v5 = Value.pointer (some ⟨g, 2, none⟩)) ∧ Hid (L 3 = true → v6 = Value.map (some bn)) ∧ Hid (L 4 = true → v7 = Value.pointer (some ⟨g, 0, none⟩)) ∧ Hid (L 5 = true → v8 = Value.pointer (some ⟨g, 0, none⟩)) ∧ Hid (L 6 = true → v9 = Value.pointer (some ⟨g, 0, none⟩)) ∧ Hid (L 7 = true → v10 = Value.int .i64 h) ∧ Hid (L 8 = true → v11 = Value.agg #[.int .i64 h, .int .i64 0]) ∧ Hid (L 9 = true → v12 = Value.int .u64 y) ∧ Hid (L 10 = true → v2 = Value.int .u64 y)) [0, 1, 2, 3, 4, 5, 6, 7, 8, 9, 10] (by kernel_rfl) (by kernel_rfl) ?a1I ?a1S ?a1D
  case a1I =>
    refine ⟨?a1v3, ?a1v4, ?a1v5, ?a1v6, ?a1v7, ?a1v8, ?a1v9, ?a1v10, ?a1v11, ?a1v12, ?a1v2, ?a1fr, (Only.refl _ _).drew, Lib.hid (no_yet (by kernel_rfl)), Lib.hid (no_yet (by kernel_rfl)), Lib.hid (no_yet (by kernel_rfl)), Lib.hid (no_yet (by kernel_rfl)), Lib.hid (no_yet (by kernel_rfl)), Lib.hid (no_yet (by kernel_rfl)), Lib.hid (no_yet (by kernel_rfl)), Lib.hid (no_yet (by kernel_rfl)), Lib.hid (no_yet (by kernel_rfl)), Lib.hid (no_yet (by kernel_rfl)), Lib.hid (no_yet (by kernel_rfl))⟩
    case a1fr => (simp only [fr, List.foldl_cons, List.foldl_nil, Act.put, List.setIfInBounds_toArray, List.set_cons_zero, List.set_cons_succ]; rfl)
  case a1S =>
    refine Steps.plain (i := 0) (o := ?a1o0) [] ?a1h0 ?a1g0 ?a1d0 ?a1s0 ?a1r0
    case a1h0 => (simp only [List.getElem?_toArray, List.getElem?_cons_zero]; rfl)
    case a1g0 => rfl
    case a1d0 => kernel_rfl
    case a1s0 =>
      rintro L aa w h0 _ ⟨v3, v4, v5, v6, v7, v8, v9, v10, v11, v12, v2, rfl, hO, hF⟩ K hK
      simp only [fr, List.foldl_cons, List.foldl_nil, Act.put, List.setIfInBounds_toArray, List.set_cons_zero, List.set_cons_succ]
      go_simp
      exact hK _ _ ⟨(Value.pointer (some ⟨g, 0, none⟩)), v4, v5, v6, v7, v8, v9, v10, v11, v12, v2, (by (simp only [fr, List.foldl_cons, List.foldl_nil, Act.put, List.setIfInBounds_toArray, List.set_cons_zero, List.set_cons_succ]); try rfl), hO, Lib.hid (fun _ => rfl), hF.2.1, hF.2.2.1, hF.2.2.2.1, hF.2.2.2.2.1, hF.2.2.2.2.2.1, hF.2.2.2.2.2.2.1, hF.2.2.2.2.2.2.2.1, hF.2.2.2.2.2.2.2.2.1, hF.2.2.2.2.2.2.2.2.2.1, hF.2.2.2.2.2.2.2.2.2.2⟩
    refine Steps.plain (i := 1) (o := ?a1o1) [0] ?a1h1 ?a1g1 ?a1d1 ?a1s1 ?a1r1
    case a1h1 => (simp only [List.getElem?_toArray, List.getElem?_cons_succ, List.getElem?_cons_zero]; rfl)
    case a1g1 => rfl
    case a1d1 => kernel_rfl
    case a1s1 =>
      rintro L aa w h0 ⟨e0, _⟩ ⟨v3, v4, v5, v6, v7, v8, v9, v10, v11, v12, v2, rfl, hO, hF⟩ K hK
      obtain rfl := (hF.1).out e0
      simp only [fr, List.foldl_cons, List.foldl_nil, Act.put, List.setIfInBounds_toArray, List.set_cons_zero, List.set_cons_succ]
      go_simp
      exact hK _ _ ⟨(Value.pointer (some ⟨g, 0, none⟩)), (Value.pointer (some ⟨g, 0, none⟩)), v5, v6, v7, v8, v9, v10, v11, v12, v2, (by (simp only [fr, List.foldl_cons, List.foldl_nil, Act.put, List.setIfInBounds_toArray, List.set_cons_zero, List.set_cons_succ]); try rfl), hO, hF.1, Lib.hid (fun _ => rfl), hF.2.2.1, hF.2.2.2.1, hF.2.2.2.2.1, hF.2.2.2.2.2.1, hF.2.2.2.2.2.2.1, hF.2.2.2.2.2.2.2.1, hF.2.2.2.2.2.2.2.2.1, hF.2.2.2.2.2.2.2.2.2.1, hF.2.2.2.2.2.2.2.2.2.2⟩
    refine Steps.plain (i := 2) (o := ?a1o2) [1] ?a1h2 ?a1g2 ?a1d2 ?a1s2 ?a1r2
    case a1h2 => (simp only [List.getElem?_toArray, List.getElem?_cons_succ, List.getElem?_cons_zero]; rfl)
    case a1g2 => rfl
    case a1d2 => kernel_rfl
    case a1s2 =>
      rintro L aa w h0 ⟨e1, _⟩ ⟨v3, v4, v5, v6, v7, v8, v9, v10, v11, v12, v2, rfl, hO, hF⟩ K hK
      obtain rfl := (hF.2.1).out e1
      simp only [fr, List.foldl_cons, List.foldl_nil, Act.put, List.setIfInBounds_toArray, List.set_cons_zero, List.set_cons_succ]
      go_simp
      exact hK _ _ ⟨v3, (Value.pointer (some ⟨g, 0, none⟩)), (Value.pointer (some ⟨g, 2, none⟩)), v6, v7, v8, v9, v10, v11, v12, v2, (by (simp only [fr, List.foldl_cons, List.foldl_nil, Act.put, List.setIfInBounds_toArray, List.set_cons_zero, List.set_cons_succ]); try rfl), hO, hF.1, hF.2.1, Lib.hid (fun _ => rfl), hF.2.2.2.1, hF.2.2.2.2.1, hF.2.2.2.2.2.1, hF.2.2.2.2.2.2.1, hF.2.2.2.2.2.2.2.1, hF.2.2.2.2.2.2.2.2.1, hF.2.2.2.2.2.2.2.2.2.1, hF.2.2.2.2.2.2.2.2.2.2⟩
    refine Steps.plain (i := 3) (o := ?a1o3) [2] ?a1h3 ?a1g3 ?a1d3 ?a1s3 ?a1r3
    case a1h3 => (simp only [List.getElem?_toArray, List.getElem?_cons_succ, List.getElem?_cons_zero]; rfl)
    case a1g3 => rfl
    case a1d3 => kernel_rfl
    case a1s3 =>
      rintro L aa w h0 ⟨e2, _⟩ ⟨v3, v4, v5, v6, v7, v8, v9, v10, v11, v12, v2, rfl, hO, hF⟩ K hK
      obtain rfl := (hF.2.2.1).out e2
      simp only [fr, List.foldl_cons, List.foldl_nil, Act.put, List.setIfInBounds_toArray, List.set_cons_zero, List.set_cons_succ]
      have x := only_cell hO z2 (fun h => h)
      go_simp
      exact hK _ _ ⟨v3, v4, (Value.pointer (some ⟨g, 2, none⟩)), (Value.map (some bn)), v7, v8, v9, v10, v11, v12, v2, (by (simp only [fr, List.foldl_cons, List.foldl_nil, Act.put, List.setIfInBounds_toArray, List.set_cons_zero, List.set_cons_succ]); try rfl), hO, hF.1, hF.2.1, hF.2.2.1, Lib.hid (fun _ => rfl), hF.2.2.2.2.1, hF.2.2.2.2.2.1, hF.2.2.2.2.2.2.1, hF.2.2.2.2.2.2.2.1, hF.2.2.2.2.2.2.2.2.1, hF.2.2.2.2.2.2.2.2.2.1, hF.2.2.2.2.2.2.2.2.2.2⟩
    refine Steps.plain (i := 4) (o := ?a1o4) [] ?a1h4 ?a1g4 ?a1d4 ?a1s4 ?a1r4
    case a1h4 => (simp only [List.getElem?_toArray, List.getElem?_cons_succ, List.getElem?_cons_zero]; rfl)
    case a1g4 => rfl
    case a1d4 => kernel_rfl
    case a1s4 =>
      rintro L aa w h0 _ ⟨v3, v4, v5, v6, v7, v8, v9, v10, v11, v12, v2, rfl, hO, hF⟩ K hK
      simp only [fr, List.foldl_cons, List.foldl_nil, Act.put, List.setIfInBounds_toArray, List.set_cons_zero, List.set_cons_succ]
      go_simp
      exact hK _ _ ⟨v3, v4, v5, v6, (Value.pointer (some ⟨g, 0, none⟩)), v8, v9, v10, v11, v12, v2, (by (simp only [fr, List.foldl_cons, List.foldl_nil, Act.put, List.setIfInBounds_toArray, List.set_cons_zero, List.set_cons_succ]); try rfl), hO, hF.1, hF.2.1, hF.2.2.1, hF.2.2.2.1, Lib.hid (fun _ => rfl), hF.2.2.2.2.2.1, hF.2.2.2.2.2.2.1, hF.2.2.2.2.2.2.2.1, hF.2.2.2.2.2.2.2.2.1, hF.2.2.2.2.2.2.2.2.2.1, hF.2.2.2.2.2.2.2.2.2.2⟩
    refine Steps.plain (i := 5) (o := ?a1o5) [4] ?a1h5 ?a1g5 ?a1d5 ?a1s5 ?a1r5
    case a1h5 => (simp only [List.getElem?_toArray, List.getElem?_cons_succ, List.getElem?_cons_zero]; rfl)
    case a1g5 => rfl
    case a1d5 => kernel_rfl
    case a1s5 =>
      rintro L aa w h0 ⟨e4, _⟩ ⟨v3, v4, v5, v6, v7, v8, v9, v10, v11, v12, v2, rfl, hO, hF⟩ K hK
      obtain rfl := (hF.2.2.2.2.1).out e4
      simp only [fr, List.foldl_cons, List.foldl_nil, Act.put, List.setIfInBounds_toArray, List.set_cons_zero, List.set_cons_succ]
      go_simp
      exact hK _ _ ⟨v3, v4, v5, v6, (Value.pointer (some ⟨g, 0, none⟩)), (Value.pointer (some ⟨g, 0, none⟩)), v9, v10, v11, v12, v2, (by (simp only [fr, List.foldl_cons, List.foldl_nil, Act.put, List.setIfInBounds_toArray, List.set_cons_zero, List.set_cons_succ]); try rfl), hO, hF.1, hF.2.1, hF.2.2.1, hF.2.2.2.1, hF.2.2.2.2.1, Lib.hid (fun _ => rfl), hF.2.2.2.2.2.2.1, hF.2.2.2.2.2.2.2.1, hF.2.2.2.2.2.2.2.2.1, hF.2.2.2.2.2.2.2.2.2.1, hF.2.2.2.2.2.2.2.2.2.2⟩
    refine Steps.plain (i := 6) (o := ?a1o6) [5] ?a1h6 ?a1g6 ?a1d6 ?a1s6 ?a1r6
    case a1h6 => (simp only [List.getElem?_toArray, List.getElem?_cons_succ, List.getElem?_cons_zero]; rfl)
    case a1g6 => rfl
    case a1d6 => kernel_rfl
    case a1s6 =>
      rintro L aa w h0 ⟨e5, _⟩ ⟨v3, v4, v5, v6, v7, v8, v9, v10, v11, v12, v2, rfl, hO, hF⟩ K hK
      obtain rfl := (hF.2.2.2.2.2.1).out e5
      simp only [fr, List.foldl_cons, List.foldl_nil, Act.put, List.setIfInBounds_toArray, List.set_cons_zero, List.set_cons_succ]
      go_simp
      exact hK _ _ ⟨v3, v4, v5, v6, v7, (Value.pointer (some ⟨g, 0, none⟩)), (Value.pointer (some ⟨g, 0, none⟩)), v10, v11, v12, v2, (by (simp only [fr, List.foldl_cons, List.foldl_nil, Act.put, List.setIfInBounds_toArray, List.set_cons_zero, List.set_cons_succ]); try rfl), hO, hF.1, hF.2.1, hF.2.2.1, hF.2.2.2.1, hF.2.2.2.2.1, hF.2.2.2.2.2.1, Lib.hid (fun _ => rfl), hF.2.2.2.2.2.2.2.1, hF.2.2.2.2.2.2.2.2.1, hF.2.2.2.2.2.2.2.2.2.1, hF.2.2.2.2.2.2.2.2.2.2⟩
    refine Steps.plain (i := 7) (o := ?a1o7) [6] ?a1h7 ?a1g7 ?a1d7 ?a1s7 ?a1r7
    case a1h7 => (simp only [List.getElem?_toArray, List.getElem?_cons_succ, List.getElem?_cons_zero]; rfl)
    case a1g7 => rfl
    case a1d7 => kernel_rfl
    case a1s7 =>
      rintro L aa w h0 ⟨e6, _⟩ ⟨v3, v4, v5, v6, v7, v8, v9, v10, v11, v12, v2, rfl, hO, hF⟩ K hK
      obtain rfl := (hF.2.2.2.2.2.2.1).out e6
      simp only [fr, List.foldl_cons, List.foldl_nil, Act.put, List.setIfInBounds_toArray, List.set_cons_zero, List.set_cons_succ]
      have x := only_cell hO z0 (fun h => h)
      go_simp
      exact hK _ _ ⟨v3, v4, v5, v6, v7, v8, (Value.pointer (some ⟨g, 0, none⟩)), (Value.int .i64 h), v11, v12, v2, (by (simp only [fr, List.foldl_cons, List.foldl_nil, Act.put, List.setIfInBounds_toArray, List.set_cons_zero, List.set_cons_succ]); try rfl), hO, hF.1, hF.2.1, hF.2.2.1, hF.2.2.2.1, hF.2.2.2.2.1, hF.2.2.2.2.2.1, hF.2.2.2.2.2.2.1, Lib.hid (fun _ => rfl), hF.2.2.2.2.2.2.2.2.1, hF.2.2.2.2.2.2.2.2.2.1, hF.2.2.2.2.2.2.2.2.2.2⟩
    refine Steps.plain (i := 8) (o := ?a1o8) [7] ?a1h8 ?a1g8 ?a1d8 ?a1s8 ?a1r8
    case a1h8 => (simp only [List.getElem?_toArray, List.getElem?_cons_succ, List.getElem?_cons_zero]; rfl)
    case a1g8 => rfl
    case a1d8 => kernel_rfl
    case a1s8 =>
      rintro L aa w h0 ⟨e7, _⟩ ⟨v3, v4, v5, v6, v7, v8, v9, v10, v11, v12, v2, rfl, hO, hF⟩ K hK
      obtain rfl := (hF.2.2.2.2.2.2.2.1).out e7
      simp only [fr, List.foldl_cons, List.foldl_nil, Act.put, List.setIfInBounds_toArray, List.set_cons_zero, List.set_cons_succ]
      go_simp
      exact hK _ _ ⟨v3, v4, v5, v6, v7, v8, v9, (Value.int .i64 h), (Value.agg #[.int .i64 h, .int .i64 0]), v12, v2, (by (simp only [fr, List.foldl_cons, List.foldl_nil, Act.put, List.setIfInBounds_toArray, List.set_cons_zero, List.set_cons_succ]); try rfl), hO, hF.1, hF.2.1, hF.2.2.1, hF.2.2.2.1, hF.2.2.2.2.1, hF.2.2.2.2.2.1, hF.2.2.2.2.2.2.1, hF.2.2.2.2.2.2.2.1, Lib.hid (fun _ => rfl), hF.2.2.2.2.2.2.2.2.2.1, hF.2.2.2.2.2.2.2.2.2.2⟩
    refine Steps.plain (i := 9) (o := ?a1o9) [3, 8] ?a1h9 ?a1g9 ?a1d9 ?a1s9 ?a1r9
    case a1h9 => (simp only [List.getElem?_toArray, List.getElem?_cons_succ, List.getElem?_cons_zero]; rfl)
    case a1g9 => rfl
    case a1d9 => kernel_rfl
    case a1s9 =>
      rintro L aa w h0 ⟨e3, e8, _⟩ ⟨v3, v4, v5, v6, v7, v8, v9, v10, v11, v12, v2, rfl, hO, hF⟩ K hK
      obtain rfl := (hF.2.2.2.1).out e3
      obtain rfl := (hF.2.2.2.2.2.2.2.2.1).out e8
      simp only [fr, List.foldl_cons, List.foldl_nil, Act.put, List.setIfInBounds_toArray, List.set_cons_zero, List.set_cons_succ]
      refine step_lookU 12 rfl (.tmp 6) (.tmp 11) rfl rfl (HN.out.only hO (fun h => h)) rfl HI.out.1 HI.out.2 HY.out ?_
      simp only [Act.put, List.setIfInBounds_toArray, List.set_cons_zero, List.set_cons_succ]
      exact hK _ _ ⟨v3, v4, v5, (Value.map (some bn)), v7, v8, v9, v10, (Value.agg #[.int .i64 h, .int .i64 0]), (Value.int .u64 y), v2, (by (simp only [fr, List.foldl_cons, List.foldl_nil, Act.put, List.setIfInBounds_toArray, List.set_cons_zero, List.set_cons_succ]); try rfl), hO, hF.1, hF.2.1, hF.2.2.1, hF.2.2.2.1, hF.2.2.2.2.1, hF.2.2.2.2.2.1, hF.2.2.2.2.2.2.1, hF.2.2.2.2.2.2.2.1, hF.2.2.2.2.2.2.2.2.1, Lib.hid (fun _ => rfl), hF.2.2.2.2.2.2.2.2.2.2⟩
    refine Steps.plain (i := 10) (o := ?a1o10) [9] ?a1h10 ?a1g10 ?a1d10 ?a1s10 ?a1r10
    case a1h10 => (simp only [List.getElem?_toArray, List.getElem?_cons_succ, List.getElem?_cons_zero]; rfl)
    case a1g10 => rfl
    case a1d10 => kernel_rfl
    case a1s10 =>
      rintro L aa w h0 ⟨e9, _⟩ ⟨v3, v4, v5, v6, v7, v8, v9, v10, v11, v12, v2, rfl, hO, hF⟩ K hK
      obtain rfl := (hF.2.2.2.2.2.2.2.2.2.1).out e9
      simp only [fr, List.foldl_cons, List.foldl_nil, Act.put, List.setIfInBounds_toArray, List.set_cons_zero, List.set_cons_succ]
      go_simp
      exact hK _ _ ⟨v3, v4, v5, v6, v7, v8, v9, v10, v11, (Value.int .u64 y), (Value.int .u64 y), (by (simp only [fr, List.foldl_cons, List.foldl_nil, Act.put, List.setIfInBounds_toArray, List.set_cons_zero, List.set_cons_succ]); try rfl), hO, hF.1, hF.2.1, hF.2.2.1, hF.2.2.2.1, hF.2.2.2.2.1, hF.2.2.2.2.2.1, hF.2.2.2.2.2.2.1, hF.2.2.2.2.2.2.2.1, hF.2.2.2.2.2.2.2.2.1, hF.2.2.2.2.2.2.2.2.2.1, Lib.hid (fun _ => rfl)⟩
    exact Steps.nil
  case a1D =>
    rintro L aa w hL ⟨v3, v4, v5, v6, v7, v8, v9, v10, v11, v12, v2, rfl, hO, hF⟩
    obtain rfl := (hF.1).out (hL 0 (by decide))
    obtain rfl := (hF.2.1).out (hL 1 (by decide))
    obtain rfl := (hF.2.2.1).out (hL 2 (by decide))
    obtain rfl := (hF.2.2.2.1).out (hL 3 (by decide))
    obtain rfl := (hF.2.2.2.2.1).out (hL 4 (by decide))
    obtain rfl := (hF.2.2.2.2.2.1).out (hL 5 (by decide))
    obtain rfl := (hF.2.2.2.2.2.2.1).out (hL 6 (by decide))
    obtain rfl := (hF.2.2.2.2.2.2.2.1).out (hL 7 (by decide))
    obtain rfl := (hF.2.2.2.2.2.2.2.2.1).out (hL 8 (by decide))
    obtain rfl := (hF.2.2.2.2.2.2.2.2.2.1).out (hL 9 (by decide))
    obtain rfl := (hF.2.2.2.2.2.2.2.2.2.2).out (hL 10 (by decide))
    have l0 := hL 0 (by decide)
    have l1 := hL 1 (by decide)
    have l2 := hL 2 (by decide)
    have l3 := hL 3 (by decide)
    have l4 := hL 4 (by decide)
    have l5 := hL 5 (by decide)
    have l6 := hL 6 (by decide)
    have l7 := hL 7 (by decide)
    have l8 := hL 8 (by decide)
    have l9 := hL 9 (by decide)
    have l10 := hL 10 (by decide)
    clear hL
    simp only [fr, List.foldl_cons, List.foldl_nil, Act.put, List.setIfInBounds_toArray, List.set_cons_zero, List.set_cons_succ]
    have hb : Below W0.heap.size W0 w := hO.below (Nat.le_refl _) (fun _ h => h.elim)
    clear hO
    go_wp2
    go_ret
    exact ⟨rfl, hb⟩
set_option maxHeartbeats 1000000 in
theorem pget_any (H : Par w g bc bn h n C M) (i : Int) (hi : I64 i) : Calls Try.prog 31 #[.pointer (some ⟨g, 0, none⟩), .int .i64 i] w fun e w' => e = .returned (.tuple #[.int .i64 ((C (kI i)).getD 0), .bool (C (kI i)).isSome]) ∧ w = w' := by
  have z1 : w.cell? ⟨g, 1, none⟩ = some (.map (some bc)) := H.V.cell 1
  have hr := run_lookI H.C hi rfl rfl
  obtain ⟨y, hy⟩ : ∃ y, (C (kI i)).getD 0 = y := ⟨_, rfl⟩
  obtain ⟨q, hq⟩ : ∃ q, (C (kI i)).isSome = q := ⟨_, rfl⟩
  rw [hy, hq] at hr ⊢
  clear hy H hq hi
  go_enter Try.func31, Try.ntmps31
  go_wp2_with fail
  go_ret2
  exact ⟨rfl, rfl⟩
end
end Go.Proofs.Ytgelhcgaacnjcaa
