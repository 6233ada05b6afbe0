/-
  WHAT IS PROVED HERE: CommitrevealPlays: for every input the law returns true and leaves its arguments. No condition.
-/
import Derived.Test.YtojmkfhinkmhaaaCrY
import Derived.Deep.DeepHandedRow
import Derived.Lib.SmallJoins
namespace Go.Proofs.Ytojmkfhinkmhaaa
set_option linter.unusedVariables false
open Go.ChangeShapes Go.WideShapes Go.ChangeAt Go.RowKit

theorem ownKnobNone : ownKnob Try.prog.godebug = none := by kernel_rfl
namespace commitrevealPlaysRow
set_option maxRecDepth 100000 in
theorem lifted (os : Os) (started : os.Started) (H : Type) (enc : TypeId × Value → H) :
    ReturnsInHanded {} Try.checked os 8 .any (Rows.commitrevealPlaysSpec.pre6 enc Try.prog Try.f8 Rows.commitrevealPlaysRow.domain false) (Rows.commitrevealPlaysSpec.post enc Try.prog Try.f8 false true false false) := by
  refine returnsInHanded_of_change (C := Try.checked) ownKnobNone started (by kernel_rfl) Try.func8
    (ChangeSpec.witness6 (enc := enc) (C := Try.checked) false ⟨#[], #[.int .i64 0, .slice none 0 0, .slice none 0 0, .int .u64 0, .agg #[.int .i64 0, .int .i64 0, .int .i64 0], .int .u64 0], []⟩ 8 (by kernel_rfl) (by kernel_rfl) (by kernel_rfl) (by kernel_rfl)) ?_
  intro W base args ds gs before hval0 hW hcnd _
  have hval : ∀ (j : Nat) t v, Try.f8.params[j]? = some t → args[j]? = some v → Value.okWide Try.prog W .any base t v := hval0
  have hW' := hW
  obtain ⟨p, q, hA0, hV, rfl, hfz, hnd⟩ := hW
  have hA : DataW.TrodAll enc Try.prog W 0 (fun _ => true) true Try.f8.params.toList args.toList ds p := hA0
  rw [Try.params8] at hA hval
  obtain ⟨v0, vs0, d0, ds0, p0, q0, hargs, rfl, rfl, h0, r0⟩ := trodAll_cons hA
  obtain ⟨v1, vs1, d1, ds1, p1, q1, rfl, rfl, rfl, h1, r1⟩ := trodAll_cons r0
  obtain ⟨v2, vs2, d2, ds2, p2, q2, rfl, rfl, rfl, h2, r2⟩ := trodAll_cons r1
  obtain ⟨v3, vs3, d3, ds3, p3, q3, rfl, rfl, rfl, h3, r3⟩ := trodAll_cons r2
  obtain ⟨v4, vs4, d4, ds4, p4, q4, rfl, rfl, rfl, h4, r4⟩ := trodAll_cons r3
  obtain ⟨v5, vs5, d5, ds5, p5, q5, rfl, rfl, rfl, h5, r5⟩ := trodAll_cons r4
  obtain ⟨rfl, rfl, rfl⟩ := trodAll_nil r5
  obtain rfl : args = #[v0, v1, v2, v3, v4, v5] := by cases args; simp_all
  obtain ⟨rfl, rfl⟩ := trodVars_none hV
  obtain ⟨a0, rfl, rfl, rfl, w0⟩ := open_int Try.underlying3 (hval 0 3 v0 rfl rfl) h0
  have b0 := bounds_i64 w0
  obtain ⟨A1, n1, c1, l1, rfl, nc1, cm1, ln1, rd1, wf1⟩ := rd_ints Try.underlying30 Try.underlying3 (by kernel_rfl) (hval 1 30 v1 rfl rfl) h1
  obtain ⟨A2, n2, c2, l2, rfl, nc2, cm2, ln2, rd2, wf2⟩ := rd_ints Try.underlying30 Try.underlying3 (by kernel_rfl) (hval 2 30 v2 rfl rfl) h2
  obtain ⟨a3, rfl, rfl, rfl, w3⟩ := open_int Try.underlying22 (hval 3 22 v3 rfl rfl) h3
  have b3 := bounds_u64 w3
  obtain ⟨x40, x41, x42, y40, y41, y42, m4, rfl, rfl, rfl, u40, u41, u42⟩ := Go.Joins.open_agg3 Try.underlying25 (by kernel_rfl) (by kernel_rfl) (hval 4 25 v4 rfl rfl) h4
  obtain ⟨i40, e40, rfl, w40⟩ := DataW.trod_int Try.underlying3 u40
  obtain ⟨i41, e41, rfl, w41⟩ := DataW.trod_int Try.underlying3 u41
  obtain ⟨i42, e42, rfl, w42⟩ := DataW.trod_int Try.underlying3 u42
  simp only [List.cons.injEq, and_true] at e40 e41 e42
  subst e40 e41 e42
  obtain ⟨a5, rfl, rfl, rfl, w5⟩ := open_int Try.underlying22 (hval 5 22 v5 rfl rfl) h5
  have b5 := bounds_u64 w5
  refine (plays_walk a0 A1 n1 c1 l1 A2 n2 c2 l2 a3 i40 i41 i42 a5 W b0 rd1 (fun x hx => bounds_i64 (wf1 x hx)) (ml_le nc1 cm1) rd2 (fun x hx => bounds_i64 (wf2 x hx)) (ml_le nc2 cm2) b5).mono fun e W' ⟨he, hb⟩ => ?_
  subst he
  exact ⟨_, rfl, post_law (by kernel_rfl) (of_decide_eq_true (by kernel_rfl)) (show Try.f8.resultTypes = #[4] by kernel_rfl) Try.underlying4 rfl hW' hb rfl rfl rfl⟩
/-- CommitrevealPlays holds of every input. -/
theorem said : Rows.CommitrevealPlaysSaid :=
  OpenClaim.holds_of_wide 8 Try.f8 rfl rfl rfl rfl rfl rfl rfl ⟨rfl, rfl, rfl, rfl, rfl⟩ rfl rfl rfl rfl rfl (by kernel_rfl) Try.func8 (by kernel_rfl)
    (of_decide_eq_true (by kernel_rfl)) (by unfold Func.isWrapper; rw [if_neg (of_decide_eq_false (by kernel_rfl))]; exact ⟨rfl, rfl⟩)
    (fun os started H enc _ => lifted os started H enc)
end commitrevealPlaysRow
end Go.Proofs.Ytojmkfhinkmhaaa
