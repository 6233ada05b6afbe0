/-
  WHAT IS PROVED HERE: a row of leaves that is built up by appends, each with a proof of its own; an element of it replaced; what NewPartial says, as a code. No condition but that the leaves lie in memory.
-/
import Derived.Test.YtgelhcgaacnjcaaMkZ
namespace Go.Proofs.Ytgelhcgaacnjcaa
set_option linter.unusedVariables false
open Go.RowKit Go.Shelf

theorem own_keptL {w w' : World} {base : Nat} {e : TypeId} {sz n : Nat} {v : Value} {xs : List Value} (h : w.ownsRow base e sz v n xs) (hk : ∀ k cur, w.heap[k]? = some (.cells cur e (0, 0)) → base ≤ k → w'.heap[k]? = w.heap[k]?) : w'.ownsRow base e sz v n xs := by
  refine ⟨h.1, ?_⟩
  rcases h.2 with h2 | ⟨g, cap, cur, h1, h2, h3, h4⟩
  · exact .inl h2
  · exact .inr ⟨g, cap, cur, h1, h2, (hk g cur h3 h2).trans h3, h4⟩
/-- each leaf's proof is a row of its own -/
def LfOwn (w : World) (lo : Nat) (rs : List LfR) : Prop := ∀ r ∈ rs, w.ownsRow lo 22 1 (.slice r.A r.m r.c) r.m (r.prf.map (Value.int .u64))
section
variable {w w' : World} {lo : Nat} {rs : List LfR} {r : LfR}
theorem LfOwn.kept (h : LfOwn w lo rs) (hk : ∀ k cur, w.heap[k]? = some (.cells cur 22 (0, 0)) → lo ≤ k → w'.heap[k]? = w.heap[k]?) : LfOwn w' lo rs := fun r hr => own_keptL (h r hr) hk
theorem LfOwn.below (h : LfOwn w lo rs) (hb : Below w.heap.size w w') : LfOwn w' lo rs := h.kept fun k cur hc _ => hb.block k (Array.getElem?_eq_some_iff.1 hc).1
theorem LfOwn.mono (h : LfOwn w lo rs) {lo' : Nat} (hl : lo' ≤ lo) : LfOwn w lo' rs := fun r hr => own_mono (h r hr) hl
theorem LfOwn.nil (w : World) (lo : Nat) : LfOwn w lo [] := fun r h => by simp at h
theorem LfOwn.snoc (h : LfOwn w lo rs) (k : w.ownsRow lo 22 1 (.slice r.A r.m r.c) r.m (r.prf.map (Value.int .u64))) : LfOwn w lo (rs ++ [r]) := fun x hx => by
  rcases List.mem_append.1 hx with h1 | h1
  · exact h x h1
  · simp at h1
    subst h1
    exact k
theorem LfOwn.grown {base n : Nat} {v : Value} {xs : List Value} (h : LfOwn w lo rs) (hr : w.ownsRow base 25 3 v n xs) (hg : w.grownBy w' v.ownBlock) : LfOwn w' lo rs :=
  h.kept fun k cur hc _ => hg.block k (Array.getElem?_eq_some_iff.1 hc).1 fun e => by
    rcases hr.2 with ⟨h2, _⟩ | ⟨g, cap, cur', h1, _, h3, _⟩
    · rw [h2] at e
      cases e
    · rw [h1] at e
      have e : k = g := by simpa [Value.ownBlock] using e
      subst e
      rw [hc] at h3
      injection h3 with h3
      injection h3 with _ h3 _
      cases h3
theorem LfOwn.set (h : LfOwn w lo rs) {g : Nat} {cur : Array Value} (hg : Vr w g 25 cur) (hO : Only (· = g) w w') : LfOwn w' lo rs :=
  h.kept fun k cur' hc _ => hO.heap (Array.getElem?_eq_some_iff.1 hc).1 fun e => by
    subst e
    unfold Vr at hg
    rw [hc] at hg
    injection hg with hg
    injection hg with _ hg _
    cases hg
/-- a row of leaves, from what owns it -/
theorem LfRows.of_own {base n c : Nat} {A : Option Addr} (h : w.ownsRow base 25 3 (.slice A n c) n (lfCs rs)) (hl : LfOwn w lo rs) : LfRows w w.heap.size A n rs := ⟨rd_own h, fun r hr => rd_own (hl r hr)⟩
theorem LfRows.of_vr {g n : Nat} {cur : Array Value} (hV : Vr w g 25 cur) (hn : rs.length = n) (hc : ∀ j t (hj : j < rs.length), t < 3 → cur[j * 3 + t]? = (lfC rs[j])[t]?) (hl : LfOwn w lo rs) : LfRows w w.heap.size (some ⟨g, 0, none⟩) n rs := by
  refine ⟨⟨by rw [lfCs_len, hn], fun _ => ⟨g, 0, rfl, hV.lt, fun i u hu => ?_⟩⟩, fun r hr => rd_own (hl r hr)⟩
  have hi : i < rs.length * 3 := by
    have := (List.getElem?_eq_some_iff.1 hu).1
    rwa [lfCs_len] at this
  have hd : i = i / 3 * 3 + i % 3 := by omega
  have h1 := lfCs_get rs (i / 3) (i % 3) (by omega) (by omega)
  have h2 := hc (i / 3) (i % 3) (by omega) (by omega)
  rw [← hd] at h1 h2
  rw [Nat.zero_add, hV.cell, h2, ← h1]
  exact hu
theorem lfCs_snoc (rs : List LfR) (r : LfR) : lfCs (rs ++ [r]) = lfCs rs ++ lfC r := by simp [lfCs]
/-- an element replaced -/
theorem LfRows.put {base n c k : Nat} {g : Nat} {cur : Array Value} {r : LfR} (hV : Vr w g 25 cur) (ht : cur.toList.take (n * 3) = lfCs rs) (hs : n * 3 ≤ cur.size) (hk : k < n) (hl : LfOwn w lo rs) (hr : w.ownsRow lo 22 1 (.slice r.A r.m r.c) r.m (r.prf.map (Value.int .u64)))
    (hw : w' = ((w.setCell ⟨g, k * 3, none⟩ (.int .i64 r.ix)).setCell ⟨g, k * 3 + 1, none⟩ (.int .i64 r.v)).setCell ⟨g, k * 3 + 2, none⟩ (.slice r.A r.m r.c)) : LfRows w' w'.heap.size (some ⟨g, 0, none⟩) n (rs.set k r) := by
  have hn : rs.length = n := by
    have := congrArg List.length ht
    rw [lfCs_len, List.length_take, Array.length_toList] at this
    omega
  have V1 := ((hV.set (k * 3) (.int .i64 r.ix)).set (k * 3 + 1) (.int .i64 r.v)).set (k * 3 + 2) (.slice r.A r.m r.c)
  rw [← hw] at V1
  have O1 : Only (· = g) w w' := by rw [hw]; exact o_set (o_set (o_set (Only.refl _ _) _ _) _ _) _ _
  refine LfRows.of_vr (lo := lo) V1 (by rw [List.length_set, hn]) (fun j t hj ht3 => ?_) ?_
  · rw [List.length_set] at hj
    have h1 := lfCs_get rs j t hj ht3
    rw [← ht, List.getElem?_take_of_lt (by omega), Array.getElem?_toList] at h1
    by_cases he : j = k
    · subst he
      rw [List.getElem_set_self]
      rcases t with _ | _ | _ | t
      · simp [Array.getElem?_setIfInBounds, lfC]; omega
      · simp [Array.getElem?_setIfInBounds, lfC]; omega
      · simp [Array.getElem?_setIfInBounds, lfC]; omega
      · omega
    · rw [List.getElem_set_ne (Ne.symm he), Array.getElem?_setIfInBounds_ne (by omega), Array.getElem?_setIfInBounds_ne (by omega), Array.getElem?_setIfInBounds_ne (by omega)]
      exact h1
  · intro x hx
    rcases List.mem_or_eq_of_mem_set hx with h1 | h1
    · exact (hl.set hV O1) x h1
    · subst h1
      have h2 : LfOwn w lo [x] := fun y hy => by simp at hy; subst hy; exact hr
      exact (h2.set hV O1) x (by simp)
end
/-- what NewPartial says, as a code -/
theorem newp_err (root : Int) (n m c : Nat) (A : Option Addr) (rs : List LfR) (W0 : World) (rd : LfRows W0 W0.heap.size A m rs) (hn : n ≤ 1000) (hm : m ≤ 100) :
    Calls Try.prog 26 #[.int .u64 root, .int .i64 n, .slice A m c] W0 fun e w' => ∃ x, e = .returned (.tuple #[.pointer x, .int .i64 (wrongE root n rs)]) ∧ x.isNone = (wrongE root n rs != 0) ∧ Below W0.heap.size W0 w' := by
  refine (newp_any root n m c A rs W0 rd hn hm).mono ?_
  rintro e w' ⟨hb, h⟩
  have hw := np_wrong root n (hgt n) rs [] (fun _ => none) (M0 root (hgt n)) (show Holds _ _ from ⟨fun x hx => Bool.noConfusion hx, fun p hp => absurd hp List.not_mem_nil⟩)
  rcases hx : npRun root n (hgt n) (fun _ => none) (M0 root (hgt n)) rs with _ | ⟨C, M⟩
  · rw [hx] at h hw
    exact ⟨none, by rw [wrongE_yes hw.symm]; exact h, by rw [wrongE_yes hw.symm]; rfl, hb⟩
  · rw [hx] at h hw
    obtain ⟨g, bc, bn, he, _⟩ := h
    exact ⟨_, by rw [wrongE_no hw.symm]; exact he, by rw [wrongE_no hw.symm]; rfl, hb⟩
end Go.Proofs.Ytgelhcgaacnjcaa
