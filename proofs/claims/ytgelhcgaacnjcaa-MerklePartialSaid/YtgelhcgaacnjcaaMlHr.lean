/-
  WHAT IS PROVED HERE: MerklePartial: for every input the law returns true and leaves its arguments. No condition.
-/
import Derived.Test.YtgelhcgaacnjcaaMlH
import Derived.Deep.DeepHandedRow
namespace Go.Proofs.Ytgelhcgaacnjcaa
set_option linter.unusedVariables false
open Go.ChangeShapes Go.WideShapes Go.ChangeAt Go.RowKit

theorem ownKnobNone : ownKnob Try.prog.godebug = none := by kernel_rfl
namespace merklePartialRow
set_option maxRecDepth 100000 in
theorem lifted (os : Os) (started : os.Started) (H : Type) (enc : TypeId × Value → H) :
    ReturnsInHanded {} Try.checked os 10 .any (Rows.merklePartialSpec.pre6 enc Try.prog Try.f10 Rows.merklePartialRow.domain false) (Rows.merklePartialSpec.post enc Try.prog Try.f10 false true false false) := by
  refine returnsInHanded_of_change (C := Try.checked) ownKnobNone started (by kernel_rfl) Try.func10
    (ChangeSpec.witness6 (enc := enc) (C := Try.checked) false ⟨#[], #[.slice none 0 0, .slice none 0 0, .slice none 0 0, .slice none 0 0], []⟩ 8 (by kernel_rfl) (by kernel_rfl) (by kernel_rfl) (by kernel_rfl)) ?_
  intro W base args ds gs before hval0 hW hcnd _
  have hval : ∀ (j : Nat) t v, Try.f10.params[j]? = some t → args[j]? = some v → Value.okWide Try.prog W .any base t v := hval0
  have hW' := hW
  obtain ⟨p, q, hA0, hV, rfl, hfz, hnd⟩ := hW
  have hA : DataW.TrodAll enc Try.prog W 0 (fun _ => true) true Try.f10.params.toList args.toList ds p := hA0
  rw [Try.params10] at hA hval
  obtain ⟨v0, vs0, d0, ds0, p0, q0, hargs, rfl, rfl, h0, r0⟩ := trodAll_cons hA
  obtain ⟨v1, vs1, d1, ds1, p1, q1, rfl, rfl, rfl, h1, r1⟩ := trodAll_cons r0
  obtain ⟨v2, vs2, d2, ds2, p2, q2, rfl, rfl, rfl, h2, r2⟩ := trodAll_cons r1
  obtain ⟨v3, vs3, d3, ds3, p3, q3, rfl, rfl, rfl, h3, r3⟩ := trodAll_cons r2
  obtain ⟨rfl, rfl, rfl⟩ := trodAll_nil r3
  obtain rfl : args = #[v0, v1, v2, v3] := by cases args; simp_all
  obtain ⟨rfl, rfl⟩ := trodVars_none hV
  obtain ⟨A0, n0, c0, l0, rfl, nc0, cm0, ln0, rd0, wf0⟩ := rd_ints Try.underlying26 Try.underlying3 (by kernel_rfl) (hval 0 26 v0 rfl rfl) h0
  obtain ⟨A1, n1, c1, l1, rfl, nc1, cm1, ln1, rd1, wf1⟩ := rd_ints Try.underlying26 Try.underlying3 (by kernel_rfl) (hval 1 26 v1 rfl rfl) h1
  obtain ⟨A2, n2, c2, l2, rfl, nc2, cm2, ln2, rd2, wf2⟩ := rd_ints Try.underlying26 Try.underlying3 (by kernel_rfl) (hval 2 26 v2 rfl rfl) h2
  obtain ⟨A3, n3, c3, l3, rfl, nc3, cm3, ln3, rd3, wf3⟩ := rd_ints Try.underlying26 Try.underlying3 (by kernel_rfl) (hval 3 26 v3 rfl rfl) h3
  refine (partial_walk A0 n0 c0 l0 A1 n1 c1 l1 A2 n2 c2 l2 A3 n3 c3 l3 W rd0 nc0 cm0 rd1 (fun x hx => bounds_i64 (wf1 x hx)) (Nat.le_trans nc1 cm1) rd2 (fun x hx => bounds_i64 (wf2 x hx)) (Nat.le_trans nc2 cm2) rd3 (Nat.le_trans nc3 cm3)).mono fun e W' ⟨he, hb⟩ => ?_
  subst he
  exact ⟨_, rfl, post_law (by kernel_rfl) (of_decide_eq_true (by kernel_rfl)) (show Try.f10.resultTypes = #[4] by kernel_rfl) Try.underlying4 rfl hW' hb rfl rfl rfl⟩
/-- MerklePartial holds of every input. -/
theorem said : Rows.MerklePartialSaid :=
  OpenClaim.holds_of_wide 10 Try.f10 rfl rfl rfl rfl rfl rfl rfl ⟨rfl, rfl, rfl, rfl, rfl⟩ rfl rfl rfl rfl rfl (by kernel_rfl) Try.func10 (by kernel_rfl)
    (of_decide_eq_true (by kernel_rfl)) (by unfold Func.isWrapper; rw [if_neg (of_decide_eq_false (by kernel_rfl))]; exact ⟨rfl, rfl⟩)
    (fun os started H enc _ => lifted os started H enc)
end merklePartialRow
end Go.Proofs.Ytgelhcgaacnjcaa
