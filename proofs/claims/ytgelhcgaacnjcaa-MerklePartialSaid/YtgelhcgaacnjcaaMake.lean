/-
  WHAT IS PROVED HERE: make([]T, n) with a variable n, over any program: the slice, the world and what it reads. No condition beyond what each theorem states.
-/
import Derived.Test.YtgelhcgaacnjcaaApp
import Derived.Laws.OwnMore
namespace Go.Proofs.Ytgelhcgaacnjcaa
set_option linter.unusedVariables false
open Go.ChangeShapes Go.WideShapes Go.ChangeAt Go.RowKit

theorem run_mk {P : Program} {t e : TypeId} {z : Value} {size bytes : Nat} (ht : P.underlying t = some (.slice e)) (h : (P.info? e).map (fun i => (i.zero, i.size, i.bytes)) = some (some z, size, bytes)) (n : Nat) (hb : n * bytes ≤ 281474976710656) (hn : n ≤ 281474976710656) (w : World) :
    (Instr.makeSlice t (.int .i64 (n : Int)) (.int .i64 (n : Int))).run P w = .ok (.slice (some ⟨w.heap.size, 0, none⟩) n n) (w.alloc (.cells (madeCells z.cells (n * size)) e)) := by
  obtain ⟨i, hi, h0, h1, h2⟩ := info_parts h
  have hb' : (i.bytes : Int) * (n : Int) ≤ 281474976710656 := by
    subst h2
    have h : ((n * i.bytes : Nat) : Int) ≤ 281474976710656 := by omega
    rwa [Int.natCast_mul, Int.mul_comm] at h
  have hr := run_make (P := P) w t e i z ht hi h0 .i64 .i64 n n (by omega) (Int.le_refl _) hb' (by omega)
  simp only [Int.toNat_natCast, h1] at hr
  exact hr
theorem own_mk (w : World) (e : TypeId) (zc : Array Value) {n size base : Nat} (hb : base ≤ w.heap.size) (hn : n ≤ 281474976710656) :
    (w.alloc (.cells (madeCells zc (n * size)) e)).ownsRow base e size (.slice (some ⟨w.heap.size, 0, none⟩) n n) n (madeCells zc (n * size)).toList :=
  World.ownsRow_lit w _ n hb (by unfold maxLen; omega) (size_madeCells _ _)
theorem made_one (z : Value) (n : Nat) : (madeCells #[z] (n * 1)).toList = List.replicate n z := by
  rw [Nat.mul_one, toList_madeCells_one]
end Go.Proofs.Ytgelhcgaacnjcaa
