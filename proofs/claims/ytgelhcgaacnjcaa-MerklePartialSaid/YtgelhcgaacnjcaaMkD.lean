/-
  WHAT IS PROVED HERE: package merkle's tree in memory; a copy onto a whole row; arrays of numbers as functions. No condition beyond what each theorem states.
-/
import Derived.Test.YtgelhcgaacnjcaaMkC
import Derived.Test.YtgelhcgaacnjcaaMake
import Derived.Laws.CopyOwn
import Derived.Laws.IdiomCopy
namespace Go.Proofs.Ytgelhcgaacnjcaa
set_option linter.unusedVariables false
open Go.ChangeShapes Go.WideShapes Go.ChangeAt Go.RowKit

/-! ### copy onto a whole row -/
theorem run_copy_all {P : Program} {w : World} {t e : TypeId} (ty : TypeId) (ht : P.underlying t = some (.slice e)) (hsz : (P.info? e).map (·.size) = some 1)
    {g n c c2 B : Nat} {A : Option Addr} {xs : List Value} {cur : Array Value} (hV : Vr w g e cur) (hcur : cur.size = n) (rd : Rd w B 1 A n xs) (h1 : ∀ v ∈ xs, v.oneCell' = true) :
    ∃ w', (Builtin.copy_ #[t, t] ty #[.slice (some ⟨g, 0, none⟩) n c, .slice A n c2]).run P w = .ok (.int .i64 n) w' ∧ Vr w' g e xs.toArray ∧ Only (· = g) w w' := by
  have hl : xs.length = n := by have := rd.1; omega
  by_cases h0 : n = 0
  · subst h0
    have hx : xs = [] := List.eq_nil_of_length_eq_zero hl
    subst hx
    have hc : cur = #[] := Array.eq_empty_of_size_eq_zero hcur
    subst hc
    exact ⟨w, run_copy_none (P := P) w t t ty e (some ⟨g, 0, none⟩) A 0 c 0 c2 ht hsz (by simp), hV, Only.refl _ _⟩
  · have hne : xs ≠ [] := fun e => by subst e; simp at hl; omega
    obtain ⟨b, off, rfl, hb, hc⟩ := rd.2 hne
    refine ⟨_, by have := run_copy_row (P := P) w t t ty e g 0 n c ⟨b, off, none⟩ n c2 cur e xs ht hsz hV (by simp [hl]) (fun j v hj => by rw [Go.WideShapes.add_plain]; exact hc j v hj) (by omega) h1; rw [hl] at this; exact this, ?_, ?_⟩
    · have := setRow_heap w g cur (xs ++ cur.toList.drop xs.length).toArray e (0, 0) hV
      simpa [Vr, List.drop_of_length_le, hl, hcur] using this
    · exact ⟨rfl, rfl, rfl, by simp [World.setRow], fun k hk hn => setRow_other w g k _ (fun e => hn e)⟩

/-! ### an array of numbers as a function -/
def arrN (N : Nat) (f : Nat → Int) : Array Value := ((List.range N).map fun k => Value.int .u64 (f k)).toArray
theorem arrN_size (N : Nat) (f : Nat → Int) : (arrN N f).size = N := by simp [arrN]
theorem arrN_get {N : Nat} (f : Nat → Int) {k : Nat} (h : k < N) : (arrN N f)[k]? = some (.int .u64 (f k)) := by simp [arrN, h]
def updF (f : Nat → Int) (k : Nat) (v : Int) : Nat → Int := fun j => if j = k then v else f j
theorem arrN_none {N : Nat} (f : Nat → Int) {k : Nat} (h : ¬ k < N) : (arrN N f)[k]? = none := Array.getElem?_eq_none (by rw [arrN_size]; omega)
theorem arrN_set (N : Nat) (f : Nat → Int) (k : Nat) (v : Int) : (arrN N f).setIfInBounds k (.int .u64 v) = arrN N (updF f k v) := by
  refine Array.ext_getElem? fun i => ?_
  rw [Array.getElem?_setIfInBounds, arrN_size]
  by_cases hi : i < N
  · rw [arrN_get _ hi, arrN_get _ hi]
    by_cases hik : k = i
    · subst hik
      simp [updF, hi]
    · have : ¬ i = k := fun e => hik e.symm
      simp [updF, hik, this]
  · rw [arrN_none _ hi, arrN_none _ hi]
    by_cases hik : k = i
    · subst hik
      simp [hi]
    · simp [hik]
theorem arrN_made (N : Nat) : madeCells #[Value.int .u64 0] (N * 1) = arrN N (fun _ => 0) := by
  apply Array.toList_inj.1
  rw [made_one]
  show _ = (List.range N).map fun _ => _
  rw [List.map_const', List.length_range]
theorem arrN_congr {N : Nat} {f f' : Nat → Int} (h : ∀ k, k < N → f k = f' k) : arrN N f = arrN N f' := by
  unfold arrN
  congr 1
  exact List.map_congr_left fun k hk => by rw [h k (List.mem_range.1 hk)]
def arrI (l : List Int) : Array Value := (l.map (Value.int .i64)).toArray
theorem arrI_size (l : List Int) : (arrI l).size = l.length := by simp [arrI]
theorem arrI_get {l : List Int} {k : Nat} (h : k < l.length) : (arrI l)[k]? = some (.int .i64 l[k]) := by simp [arrI, h]
theorem arrI_set (l : List Int) (k : Nat) (v : Int) : (arrI l).setIfInBounds k (.int .i64 v) = arrI (l.set k v) := by
  unfold arrI
  rw [List.setIfInBounds_toArray, List.map_set]

/-! ### the tree -/
/-- From place t on the nodes are those of the cells. -/
def Good (cs : List Int) (h : Nat) (f : Nat → Int) (t : Nat) : Prop := ∀ l k, l ≤ h → k < 2 ^ (h - l) → t ≤ 2 ^ (h - l) + k → f (2 ^ (h - l) + k) = nV cs l k
theorem place_inj {h l l' k k' : Nat} (hl : l ≤ h) (hl' : l' ≤ h) (hk : k < 2 ^ (h - l)) (hk' : k' < 2 ^ (h - l')) (e : 2 ^ (h - l) + k = 2 ^ (h - l') + k') : l = l' ∧ k = k' := by
  have key : ∀ {a b x y : Nat}, x < 2 ^ a → y < 2 ^ b → a < b → 2 ^ a + x = 2 ^ b + y → False := fun {a b x y} hx hy hab e => by
    have h1 : 2 ^ (a + 1) ≤ 2 ^ b := Nat.pow_le_pow_right (by omega) hab
    rw [Nat.pow_succ] at h1
    omega
  have : h - l = h - l' := by
    rcases Nat.lt_trichotomy (h - l) (h - l') with h1 | h1 | h1
    · exact (key hk hk' h1 e).elim
    · exact h1
    · exact (key hk' hk h1 e.symm).elim
  have : l = l' := by omega
  subst this
  exact ⟨rfl, by omega⟩
theorem Good.congr {cs : List Int} {h t : Nat} {f f' : Nat → Int} (hg : Good cs h f t) (hf : ∀ j, t ≤ j → f' j = f j) : Good cs h f' t := fun l k hl hk ht => by rw [hf _ ht]; exact hg l k hl hk ht
theorem Good.up {cs : List Int} {h t : Nat} {f : Nat → Int} (hg : Good cs h f (t + 1)) (ht : t < 2 ^ h) (h0 : 1 ≤ t) : Good cs h (updF f t (prI (f (2 * t)) (f (2 * t + 1)))) t := by
  intro l k hl hk htk
  rcases Nat.lt_or_ge t (2 ^ (h - l) + k) with h1 | h1
  · unfold updF
    rw [if_neg (by omega)]
    exact hg l k hl hk h1
  · have e : 2 ^ (h - l) + k = t := by omega
    rcases l with _ | l
    · simp at e
      omega
    · have hp := pow_step (h := h) (l := l) (by omega)
      unfold updF
      rw [if_pos e, show 2 * t = 2 ^ (h - l) + 2 * k from by omega, show 2 ^ (h - l) + 2 * k + 1 = 2 ^ (h - l) + (2 * k + 1) from by omega,
        hg l (2 * k) (by omega) (by omega) (by omega), hg l (2 * k + 1) (by omega) (by omega) (by omega)]
      rfl
theorem good_leaves {cs : List Int} {h : Nat} {f : Nat → Int} (hl : ∀ k, k < 2 ^ h → f (2 ^ h + k) = lfV cs k) : Good cs h f (2 ^ h) := by
  intro l k hlh hk ht
  have : l = 0 := by
    rcases l with _ | l
    · rfl
    · have hp := pow_step (h := h) (l := l) (by omega)
      have : 2 ^ (h - l) ≤ 2 ^ h := Nat.pow_le_pow_right (by omega) (by omega)
      omega
  subst this
  exact hl k (by simpa using hk)
/-- A tree over the cells in memory: its record, its cells, its nodes. -/
structure Tr (w : World) (g bc bn : Nat) (cs : List Int) (f : Nat → Int) : Prop where
  V : Vr w g 69 #[.int .i64 (hgt cs.length : Nat), .slice (some ⟨bc, 0, none⟩) cs.length cs.length, .slice (some ⟨bn, 0, none⟩) (2 * 2 ^ hgt cs.length) (2 * 2 ^ hgt cs.length)]
  C : Vr w bc 3 (arrI cs)
  N : Vr w bn 22 (arrN (2 * 2 ^ hgt cs.length) f)
  G : Good cs (hgt cs.length) f 1
  gc : g ≠ bc
  gn : g ≠ bn
  cn : bc ≠ bn
  sm : cs.length ≤ 1000
def TF (g bc bn k : Nat) : Prop := k = g ∨ k = bc ∨ k = bn
section
variable {w w' : World} {g bc bn : Nat} {cs : List Int} {f : Nat → Int}
theorem Tr.only {F : Nat → Prop} (h : Tr w g bc bn cs f) (hO : Only F w w') (hn : ∀ k, TF g bc bn k → ¬ F k) : Tr w' g bc bn cs f :=
  ⟨h.V.only hO (hn _ (.inl rfl)), h.C.only hO (hn _ (.inr (.inl rfl))), h.N.only hO (hn _ (.inr (.inr rfl))), h.G, h.gc, h.gn, h.cn, h.sm⟩
theorem Tr.call (h : Tr w g bc bn cs f) (hb : Below w.heap.size w w') : Tr w' g bc bn cs f := ⟨h.V.call hb, h.C.call hb, h.N.call hb, h.G, h.gc, h.gn, h.cn, h.sm⟩
theorem Tr.lt (h : Tr w g bc bn cs f) {k : Nat} (hk : TF g bc bn k) : k < w.heap.size := by
  rcases hk with rfl | rfl | rfl
  · exact h.V.lt
  · exact h.C.lt
  · exact h.N.lt
theorem Tr.h10 (h : Tr w g bc bn cs f) : hgt cs.length ≤ 10 := hgt_min (by have := h.sm; omega)
end
theorem pow10 {h : Nat} (hh : h ≤ 10) : 1 ≤ 2 ^ h ∧ 2 ^ h ≤ 1024 := ⟨Nat.pow_pos (by omega), Nat.pow_le_pow_right (n := 2) (by omega) hh⟩
theorem Tr.root {w : World} {g bc bn : Nat} {cs : List Int} {f : Nat → Int} (h : Tr w g bc bn cs f) : f 1 = nV cs (hgt cs.length) 0 := by
  have := h.G (hgt cs.length) 0 (Nat.le_refl _) (by simp) (by simp)
  simpa using this
theorem Tr.node {w : World} {g bc bn : Nat} {cs : List Int} {f : Nat → Int} (h : Tr w g bc bn cs f) {l k : Nat} (hl : l ≤ hgt cs.length) (hk : k < 2 ^ (hgt cs.length - l)) : f (2 ^ (hgt cs.length - l) + k) = nV cs l k :=
  h.G l k hl hk (by have := Nat.pow_pos (n := hgt cs.length - l) (show 0 < 2 by omega); omega)
end Go.Proofs.Ytgelhcgaacnjcaa
