/-
  WHAT IS PROVED HERE: a partial tree of true leaves, by its cells and what is known of them: NewPartial, Root, Get, Set. No condition but that it lies in memory.
-/
import Derived.Test.YtgelhcgaacnjcaaMlD
import Derived.Test.YtgelhcgaacnjcaaMlA
import Derived.Test.YtgelhcgaacnjcaaMkM
namespace Go.Proofs.Ytgelhcgaacnjcaa
set_option linter.unusedVariables false
open Go.RowKit Go.Shelf

/-- a leaf as the tree proves it -/
def TrueLf (cs : List Int) (r : LfR) : Prop := ∃ (i : Nat) (hi : i < cs.length), r.ix = i ∧ r.v = cs[i] ∧ r.prf = prfV cs i (List.range (hgt cs.length))
theorem np_true {cs : List Int} : ∀ (rs : List LfR) (C M : Lit → Option Int), (∀ r ∈ rs, TrueLf cs r) → PInv cs (hgt cs.length) C M →
    ∃ C' M', npRun (nV cs (hgt cs.length) 0) (cs.length : Nat) (hgt cs.length) C M rs = some (C', M') ∧ PInv cs (hgt cs.length) C' M' ∧ ∀ x : Int, (C' (kI x)).isSome = true ↔ (C (kI x)).isSome = true ∨ ∃ r ∈ rs, r.ix = x
  | [], C, M, _, H => ⟨C, M, rfl, H, fun x => ⟨fun h => .inl h, fun h => h.elim id (fun ⟨r, hr, _⟩ => absurd hr List.not_mem_nil)⟩⟩
  | r :: rs, C, M, ht, H => by
    obtain ⟨i, hi, e1, e2, e3⟩ := ht r List.mem_cons_self
    obtain ⟨C', M', h1, h2, h3⟩ := np_true rs _ _ (fun x hx => ht x (List.mem_cons_of_mem _ hx)) (H.learn hi)
    refine ⟨C', M', ?_, h2, fun x => ?_⟩
    · unfold npRun
      rw [if_pos, e1, e2, e3, Int.toNat_natCast]
      · exact h1
      · rw [e1, e2, e3]
        refine ⟨verB_prf cs i hi, fun ⟨h4, h5⟩ => h5 ?_⟩
        obtain ⟨j, hj, hij, hc⟩ := H.cells i h4
        have : j = i := by omega
        subst this
        rw [hc]
        rfl
    · rw [h3]
      constructor
      · rintro (h | ⟨r', hr, he⟩)
        · by_cases hx : kI x = kI i
          · exact .inr ⟨r, List.mem_cons_self, by rw [e1, kI_inj hx]⟩
          · rw [putM_other _ _ hx] at h
            exact .inl h
        · exact .inr ⟨r', List.mem_cons_of_mem _ hr, he⟩
      · rintro (h | ⟨r', hr, he⟩)
        · exact .inl (put_some h)
        · rcases List.mem_cons.1 hr with rfl | hr
          · refine .inl ?_
            rw [← he, e1, putM_same]
            rfl
          · exact .inr ⟨r', hr, he⟩
/-- A partial tree over the cells in memory, of which own are known. -/
structure PT (w : World) (g bc bn N : Nat) (cs own : List Int) : Prop where
  ex : ∃ C M, Par w g bc bn (hgt cs.length) N C M ∧ PInv cs (hgt cs.length) C M ∧ ∀ x : Int, (C (kI x)).isSome = true ↔ x ∈ own
section
variable {w w' : World} {g bc bn N : Nat} {cs own : List Int}
theorem PT.call (H : PT w g bc bn N cs own) (hb : Below w.heap.size w w') : PT w' g bc bn N cs own := by
  obtain ⟨C, M, h1, h2⟩ := H.ex
  exact ⟨C, M, h1.call hb, h2⟩
theorem PT.only {F : Nat → Prop} (H : PT w g bc bn N cs own) (hO : Only F w w') (hn : ∀ k, TF g bc bn k → ¬ F k) : PT w' g bc bn N cs own := by
  obtain ⟨C, M, h1, h2⟩ := H.ex
  exact ⟨C, M, h1.only hO hn, h2⟩
theorem PT.mono (H : PT w g bc bn N cs own) {N' : Nat} (hn : N ≤ N') : PT w g bc bn N' cs own := by
  obtain ⟨C, M, h1, h2⟩ := H.ex
  exact ⟨C, M, h1.mono hn, h2⟩
theorem PT.lt (H : PT w g bc bn N cs own) {k : Nat} (hk : TF g bc bn k) : k < w.heap.size := by
  obtain ⟨C, M, h1, h2⟩ := H.ex
  rcases hk with rfl | rfl | rfl
  · exact h1.V.lt
  · exact h1.C.lt
  · exact h1.N.lt
theorem pt_root (H : PT w g bc bn N cs own) : Calls Try.prog 29 #[.pointer (some ⟨g, 0, none⟩)] w fun e w' => e = .returned (.int .u64 (nV cs (hgt cs.length) 0)) ∧ Below w.heap.size w w' := by
  obtain ⟨C, M, h1, h2, _⟩ := H.ex
  refine (proot_any w h1 (by have := h2.h10; omega)).mono ?_
  rintro e w' ⟨rfl, hb⟩
  have hr := h2.rootV
  unfold pk at hr
  exact ⟨by rw [← hr]; rfl, hb⟩
theorem pt_get (H : PT w g bc bn N cs own) (i : Int) (hi : I64 i) : Calls Try.prog 31 #[.pointer (some ⟨g, 0, none⟩), .int .i64 i] w fun e w' => e = .returned (.tuple #[.int .i64 (if i ∈ own then cs.getD i.toNat 0 else 0), .bool (decide (i ∈ own))]) ∧ w = w' := by
  obtain ⟨C, M, h1, h2, h3⟩ := H.ex
  refine (pget_any h1 i hi).mono ?_
  rintro e w' ⟨rfl, rfl⟩
  refine ⟨?_, rfl⟩
  by_cases h : i ∈ own
  · have h4 := (h3 i).2 h
    obtain ⟨j, hj, rfl, hc⟩ := h2.cells i h4
    rw [if_pos h, decide_eq_true h, h4, hc]
    simp [hj]
  · have h4 : (C (kI i)).isSome = false := by
      rcases hx : (C (kI i)).isSome with _ | _
      · rfl
      · exact absurd ((h3 i).1 hx) h
    have h5 : C (kI i) = none := Option.isNone_iff_eq_none.1 (by simpa using h4)
    rw [if_neg h, decide_eq_false h, h5]
    rfl
theorem pt_set_no (H : PT w g bc bn N cs own) (i v : Int) (hi : I64 i) (h : ¬ i ∈ own) : Calls Try.prog 28 #[.pointer (some ⟨g, 0, none⟩), .int .i64 i, .int .i64 v] w fun e w' => e = .returned (.bool false) ∧ Below w.heap.size w w' := by
  obtain ⟨C, M, h1, h2, h3⟩ := H.ex
  refine pset_no g bc bn _ N C M i v w h1 hi ?_
  rcases hx : (C (kI i)).isSome with _ | _
  · rfl
  · exact absurd ((h3 i).1 hx) h
theorem pt_set (H : PT w g bc bn N cs own) (hN : N ≤ 100000) (hsm : cs.length ≤ 1000) (i : Nat) (v : Int) (h : (i : Int) ∈ own) : Calls Try.prog 28 #[.pointer (some ⟨g, 0, none⟩), .int .i64 (i : Int), .int .i64 v] w fun e w' => e = .returned (.bool true) ∧ PT w' g bc bn (N + 12) (cs.set i v) own ∧ Only (fun k => k = bc ∨ k = bn) w w' := by
  obtain ⟨C, M, h1, h2, h3⟩ := H.ex
  have h4 := (h3 i).2 h
  obtain ⟨j, hj, hij, hc⟩ := h2.cells i h4
  have hji : j = i := by omega
  subst hji
  refine (callsIn_wide.1 (pset_in g bc bn _ N C M j v w h1 h4 h2.h10 (by omega) hN)).mono ?_
  rintro e w' ⟨rfl, hP, hO⟩
  refine ⟨rfl, ⟨_, _, (by rw [hgt_set]; exact hP.mono (by have := h2.h10; omega)), (by rw [hgt_set]; exact h2.set v h4 hj), fun x => ?_⟩, hO⟩
  · by_cases hx : kI x = kI j
    · rw [hx, putM_same, kI_inj hx]
      exact ⟨fun _ => h, fun _ => rfl⟩
    · rw [putM_other _ _ hx]
      exact h3 x
end
theorem pt_new (cs : List Int) (hsm : cs.length ≤ 1000) (m c : Nat) (A : Option Addr) (rs : List LfR) (W0 : World) (rd : LfRows W0 W0.heap.size A m rs) (hm : m ≤ 100) (ht : ∀ r ∈ rs, TrueLf cs r) :
    Calls Try.prog 26 #[.int .u64 (nV cs (hgt cs.length) 0), .int .i64 (cs.length : Nat), .slice A m c] W0 fun e w' => ∃ g bc bn, e = .returned (.tuple #[.pointer (some ⟨g, 0, none⟩), .int .i64 0]) ∧ PT w' g bc bn (1 + 21 * m) cs (rs.map LfR.ix) ∧ (∀ k, TF g bc bn k → W0.heap.size ≤ k) ∧ Below W0.heap.size W0 w' := by
  refine (newp_any _ _ m c A rs W0 rd hsm hm).mono ?_
  rintro e w' ⟨hb, h⟩
  obtain ⟨C, M, h1, h2, h3⟩ := np_true rs _ _ ht (PInv.new cs (hgt cs.length) rfl (hgt_min (by omega)))
  rw [h1] at h
  obtain ⟨g, bc, bn, rfl, hP, k1, k2, k3⟩ := h
  refine ⟨g, bc, bn, rfl, ⟨C, M, hP, h2, fun x => ?_⟩, fun k hk => ?_, hb⟩
  · rw [h3, List.mem_map]
    constructor
    · rintro (h | h)
      · exact Bool.noConfusion h
      · exact h
    · exact fun h => .inr h
  · rcases hk with rfl | rfl | rfl
    · exact k1
    · exact k2
    · exact k3
end Go.Proofs.Ytgelhcgaacnjcaa
