/-
  WHAT IS PROVED HERE: string(b) of bytes that read as a list, over any program. No condition beyond what the theorem states.
-/
import Derived.Test.YtmoajnekegbncaaApp
import Derived.Laws.BytesString
namespace Go.Proofs.Ytmoajnekegbncaa
set_option linter.unusedVariables false
open Go.ChangeShapes Go.WideShapes Go.ChangeAt Go.RowKit

@[irreducible] def bytesOf (L : List Int) : ByteArray := L.foldl (fun r n => r.push (UInt8.ofNat n.toNat)) ByteArray.empty
theorem run_conv {P : Program} {src dst e : TypeId} (hs : P.underlying src = some (.slice e)) (he : P.underlying e = some (.int .u8)) (hd : P.underlying dst = some .string)
    {w : World} {B n : Nat} {A : Option Addr} {L : List Int} (c : Nat) (rd : Rd w B 1 A n (L.map (Value.int .u8))) : (convert src dst (.slice A n c)).run P w = .ok (.string (bytesOf L)) w := by
  have hl : L.length = n := by have := rd.1; simpa using this
  rw [run_convert_bytes_string w src dst e A n c hs he hd]
  unfold bytesOf
  rcases A with _ | a
  · have h0 : L = [] := by
      rcases L with _ | ⟨x, L⟩
      · rfl
      · obtain ⟨b, o, e, _⟩ := rd.2 (by simp)
        cases e
    subst h0
    simp [Conv.bytesToString, Sem.run_pure]
  · refine run_bytesToString w a n c L ?_
    have h := run_loadCells_list (P := P) w a (L.map (Value.int .u8)) (fun j v hj => by
      obtain ⟨b, o, e, _, hc⟩ := rd.2 (by intro e; rw [e] at hj; simp at hj)
      injection e with e
      subst e
      rw [Go.WideShapes.add_plain]
      exact hc j v hj)
    rw [List.length_map, hl] at h
    exact h
/-- Bytes that are there stay so: the conversion later on. -/
theorem conv_later {P : Program} {src dst e : TypeId} (hs : P.underlying src = some (.slice e)) (he : P.underlying e = some (.int .u8)) (hd : P.underlying dst = some .string)
    {w : World} {n : Nat} {A : Option Addr} {L : List Int} (c : Nat) (rd : Rd w w.heap.size 1 A n (L.map (Value.int .u8))) : ∀ W, Below w.heap.size w W → (convert src dst (.slice A n c)).run P W = .ok (.string (bytesOf L)) W :=
  fun W hb => run_conv hs he hd c (rd.below hb (Nat.le_refl _))
theorem bytesOf_inj {L L' : List Int} (hL : ∀ x ∈ L, 0 ≤ x ∧ x ≤ 255) (hL' : ∀ x ∈ L', 0 ≤ x ∧ x ≤ 255) (h : bytesOf L = bytesOf L') : L = L' := by
  have key : ∀ (M : List Int) (r : ByteArray), (M.foldl (fun r n => r.push (UInt8.ofNat n.toNat)) r).data.toList = r.data.toList ++ M.map (fun n => UInt8.ofNat n.toNat) := by
    intro M
    induction M with
    | nil => intro r; simp
    | cons x M ih => intro r; rw [List.foldl_cons, ih]; simp [ByteArray.push]
  unfold bytesOf at h
  have h2 : L.map (fun (n : Int) => UInt8.ofNat n.toNat) = L'.map (fun (n : Int) => UInt8.ofNat n.toNat) := by
    have := congrArg (fun b => b.data.toList) h
    simpa [key] using this
  have hlen : L.length = L'.length := by have := congrArg List.length h2; simpa using this
  refine List.ext_getElem hlen fun k h3 h4 => ?_
  have h5 := congrArg (fun (l : List UInt8) => l[k]?) h2
  simp only [List.getElem?_map, List.getElem?_eq_getElem h3, List.getElem?_eq_getElem h4, Option.map_some, Option.some.injEq] at h5
  have h6 := congrArg UInt8.toNat h5
  have a1 := hL _ (List.getElem_mem h3)
  have a2 := hL' _ (List.getElem_mem h4)
  rw [UInt8.toNat_ofNat_of_lt' (by simp; omega), UInt8.toNat_ofNat_of_lt' (by simp; omega)] at h6
  omega
end Go.Proofs.Ytmoajnekegbncaa
