/-
  WHAT IS PROVED HERE: errors.Is of two values of type api.Errno: true where they are equal, false else. No condition.
-/
import Derived.Test.YtmoajnekegbncaaHlpS
import Derived.LaidEql
import Derived.Stop.Asserts
import Derived.RowKitTokens
namespace Go.Proofs.Ytmoajnekegbncaa
set_option linter.unusedVariables false
open Go.RowKit Go.Extern.Stop Go.Stop Go.Extern

theorem errTypeOf (v : Value) (w : World) : (Extern.ReflectliteType.typeOf #[.iface 29 v]).run Try.prog w = .ok (.iface 80 (.agg #[.pointer (some ⟨0, 29, none⟩)])) w := by kernel_rfl
def cmpFn : Array Value → Sem Value := Extern.ReflectliteType.method fun t => do Extern.Rtype.noPackHeld "Comparable" t; pure (.bool (← typeInfo t).comparable)
theorem errComparable (w : World) : (cmpFn #[.agg #[.pointer (some ⟨0, 29, none⟩)]]).run Try.prog w = .ok (.bool true) w := by kernel_rfl
theorem errMethod (v : Value) (w : World) : (Go.method 224 80 v "Comparable").run Try.prog w = .ok (62, v) w := by kernel_rfl
theorem errComp : (Try.prog.info? 29).map (·.comparable) = some true := by kernel_rfl
theorem errNoIs (v : Value) (xT : TypeId) (w : World) : (Instr.typeAssert (.iface 29 v) xT 82 true).run Try.prog w = .ok (.tuple #[.nilIface, .bool false]) w := run_typeAssert_lacksB Try.underlying82 (by kernel_rfl) (by kernel_rfl) v xT w
theorem errNoUnwrap (v : Value) (xT : TypeId) (w : World) : (Instr.typeAssert (.iface 29 v) xT 85 true).run Try.prog w = .ok (.tuple #[.nilIface, .bool false]) w := run_typeAssert_lacksB Try.underlying85 (by kernel_rfl) (by kernel_rfl) v xT w
theorem errNoUnwraps (v : Value) (xT : TypeId) (w : World) : (Instr.typeAssert (.iface 29 v) xT 87 true).run Try.prog w = .ok (.tuple #[.nilIface, .bool false]) w := run_typeAssert_lacksB Try.underlying87 (by kernel_rfl) (by kernel_rfl) v xT w
theorem run_eql_errno (x y : Int) (w : World) : (binOp .eql 68 (.iface 29 (.int .i64 x)) (.iface 29 (.int .i64 y))).run Try.prog w = .ok (.bool (decide (x = y))) w := by
  obtain ⟨i, hi, hcmp⟩ := Option.map_eq_some_iff.1 errComp
  have h : ∀ d : Nat, (Op.equalIn (d + 2) 68 (.iface 29 (.int .i64 x)) (.iface 29 (.int .i64 y))).run Try.prog w = .ok (decide (x = y)) w := fun d => by
    simp [Op.equalIn, run_underlying Try.underlying68, run_underlying Try.underlying29, typeInfo, hi, hcmp]
    rfl
  simp only [binOp]
  simp [Op.equal, Op.maxDepth, h 9998]
theorem is_any (x y : Int) (q : Bool) (hq : decide (x = y) = q) (w : World) :
    Calls Try.prog 26 #[.iface 29 (.int .i64 x), .iface 29 (.int .i64 y)] w fun e w' => e = .returned (.bool q) ∧ w = w' := by
  have h8 := @run_callFunc_extern Try.prog 35 _ Extern.ReflectliteType.typeOf Try.func35 (by kernel_rfl) (by kernel_rfl) (by kernel_rfl) (by kernel_rfl)
  have h32 := @run_callFunc_extern Try.prog 62 _ cmpFn Try.func62 (by kernel_rfl) (by kernel_rfl) (by kernel_rfl) (by kernel_rfl)
  have tT := errTypeOf
  have cT := errComparable
  have mR := errMethod
  have nE := errNoIs
  have uE := errNoUnwrap
  have vE := errNoUnwraps
  have heq := run_eql_errno x y
  rw [hq] at heq
  have hn1 := run_eql_iface_nil_left (P := Try.prog) (w := w) 29 (.int .i64 x) Try.underlying68
  clear hq
  go_enter Try.func26, Try.ntmps26
  go_wp2
  refine wp_loop_rounds 1 ?_
  rw [rounds_succ]
  cases q
  · go_wp2
    go_ret
    exact ⟨rfl, rfl⟩
  · go_wp2
    go_ret
    exact ⟨rfl, rfl⟩
end Go.Proofs.Ytmoajnekegbncaa
