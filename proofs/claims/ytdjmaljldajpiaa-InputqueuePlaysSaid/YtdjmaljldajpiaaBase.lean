/-
  WHAT IS PROVED HERE: words and small lemmas over any program, for the walks and the rows of this seat. No condition.
-/
import Derived.Test.YtdjmaljldajpiaaRows
import Derived.WalkKit
import Derived.WalkSpells
import Derived.WalkLawsBesides
import Derived.BigQuiet
import Derived.Deep.QuietTactic
import Derived.Deep.RegionHeld3
import Derived.Lib.Hide
import Derived.ProofKit
import Derived.OpenShut
import Derived.Laws.StructEq
namespace Go.Proofs.Ytdjmaljldajpiaa
open Go.ChangeShapes Go.WideShapes Go.ChangeAt Go.RowKit

theorem ret_int {k : IntKind} {a b : Int} (h : a = b) : Ending.returned (.int k a) = .returned (.int k b) := by rw [h]
theorem ret_bool {a b : Bool} (h : a = b) : Ending.returned (.bool a) = .returned (.bool b) := by rw [h]

/-! ### Worlds -/
theorem bstep {B : Nat} {a b c : World} (h1 : Below B a b) (h2 : Below b.heap.size b c) (hB : B ≤ a.heap.size) : Below B a c :=
  h1.trans (h2.mono (Nat.le_trans hB h1.size))
theorem below_drewN {B : Nat} {a w : World} (h : Below B a w) (n : Nat) : Below B a (w.drewN n) := ⟨h.os, h.tape, h.output, h.size, h.block⟩
theorem b_drew {a w : World} (h : Below a.heap.size a w) : Below a.heap.size a w.drew := h.drew
theorem b_drewN {a w : World} (h : Below a.heap.size a w) (n : Nat) : Below a.heap.size a (w.drewN n) := below_drewN h n
theorem b_alloc {a w : World} (h : Below a.heap.size a w) (o : Obj) : Below a.heap.size a (w.alloc o) := h.alloc h.size o
theorem b_set {a w : World} (h : Below a.heap.size a w) {p : Addr} (hp : a.heap.size ≤ p.block) (u : Value) : Below a.heap.size a (w.setCell p u) := h.setCell hp u
theorem b_call {a b c : World} (h : Below a.heap.size a b) (k : Below b.heap.size b c) : Below a.heap.size a c := h.trans (k.mono h.size)
theorem grown_of_below {a w : World} (h : Below a.heap.size a w) (row : Option Nat) : a.grownBy w row := ⟨h.os, h.tape, h.output, h.size, fun i hi _ => h.block i hi⟩
theorem own_below {w w' : World} {base : Nat} {e : TypeId} {size : Nat} {v : Value} {n : Nat} {xs : List Value} (h : w.ownsRow base e size v n xs) (hb : Below w.heap.size w w') : w'.ownsRow base e size v n xs :=
  h.kept (row := none) (grown_of_below hb none) (by rcases v.ownBlock with _ | g <;> simp)
theorem own_mono {w : World} {base base' : Nat} {e : TypeId} {size : Nat} {v : Value} {n : Nat} {xs : List Value} (h : w.ownsRow base e size v n xs) (hb : base' ≤ base) : w.ownsRow base' e size v n xs := by
  refine ⟨h.1, ?_⟩
  rcases h.2 with h2 | ⟨g, cap, cur, h1, h2, h3⟩
  · exact .inl h2
  · exact .inr ⟨g, cap, cur, h1, Nat.le_trans hb h2, h3⟩

/-- Old cells and marks read as before: laid behind a call, the walk uses both as rules. -/
theorem bcell {B : Nat} {W w1 : World} (hb : Below B W w1) : (∀ b o, b < B → w1.cell? ⟨b, o, none⟩ = W.cell? ⟨b, o, none⟩) ∧ (∀ b o, b < B → w1.frozen? ⟨b, o, none⟩ = W.frozen? ⟨b, o, none⟩) :=
  ⟨fun b o h => hb.cell (p := ⟨b, o, none⟩) h, fun b o h => hb.frozen (p := ⟨b, o, none⟩) h⟩

/-- For the condition of a region of which every operation keeps old memory: what X holds is there still. -/
theorem still_of {X w' : World} (h : Below X.heap.size X w') : (∀ b o, b < X.heap.size → w'.cell? ⟨b, o, none⟩ = X.cell? ⟨b, o, none⟩) ∧ Below X.heap.size X w' := ⟨(bcell h).1, h⟩
theorem still_drew0 (X : World) : (∀ b o, b < X.heap.size → X.drew.cell? ⟨b, o, none⟩ = X.cell? ⟨b, o, none⟩) ∧ Below X.heap.size X X.drew := still_of (b_drew (Below.refl _ _))
theorem still_drew {X w : World} (h : (∀ b o, b < X.heap.size → w.cell? ⟨b, o, none⟩ = X.cell? ⟨b, o, none⟩) ∧ Below X.heap.size X w) : (∀ b o, b < X.heap.size → w.drew.cell? ⟨b, o, none⟩ = X.cell? ⟨b, o, none⟩) ∧ Below X.heap.size X w.drew := still_of h.2.drew
theorem still_alloc {X w : World} (h : (∀ b o, b < X.heap.size → w.cell? ⟨b, o, none⟩ = X.cell? ⟨b, o, none⟩) ∧ Below X.heap.size X w) (o : Obj) : (∀ b o', b < X.heap.size → (w.alloc o).cell? ⟨b, o', none⟩ = X.cell? ⟨b, o', none⟩) ∧ Below X.heap.size X (w.alloc o) := still_of (b_alloc h.2 o)
theorem still_call {X a b : World} (h : (∀ b o, b < X.heap.size → a.cell? ⟨b, o, none⟩ = X.cell? ⟨b, o, none⟩) ∧ Below X.heap.size X a) (k : Below a.heap.size a b) : (∀ i o, i < X.heap.size → b.cell? ⟨i, o, none⟩ = X.cell? ⟨i, o, none⟩) ∧ Below X.heap.size X b := still_of (b_call h.2 k)
theorem cell_keep {X w' : World} {p : Addr} {v : Value} (hb : Below X.heap.size X w') (hc : X.cell? p = some v) : w'.cell? p = some v := (hb.cell (World.block_lt_of_cell? X p hc)).trans hc

/-- Only the blocks of 'F' (below the old size) may have changed. -/
def Only (F : Nat → Prop) (w w' : World) : Prop :=
  w'.os = w.os ∧ w'.tape = w.tape ∧ w'.output = w.output ∧ w.heap.size ≤ w'.heap.size ∧ ∀ k, k < w.heap.size → ¬ F k → w'.heap[k]? = w.heap[k]?
theorem Only.refl (F : Nat → Prop) (w : World) : Only F w w := ⟨rfl, rfl, rfl, Nat.le_refl _, fun _ _ _ => rfl⟩
theorem Only.of_below {B : Nat} {w w' : World} (h : Below B w w') (F : Nat → Prop) (hF : ∀ k, B ≤ k → k < w.heap.size → F k) : Only F w w' :=
  ⟨h.os, h.tape, h.output, h.size, fun k hk hn => h.block k (by
    rcases Nat.lt_or_ge k B with h1 | h1
    · exact h1
    · exact absurd (hF k h1 hk) hn)⟩
theorem Only.below {B : Nat} {F : Nat → Prop} {w w' : World} (h : Only F w w') (hB : B ≤ w.heap.size) (hF : ∀ k, F k → B ≤ k) : Below B w w' :=
  ⟨h.1, h.2.1, h.2.2.1, h.2.2.2.1, fun k hk => h.2.2.2.2 k (Nat.lt_of_lt_of_le hk hB) (fun hf => by have := hF k hf; omega)⟩
theorem Only.trans {F : Nat → Prop} {a b c : World} (h : Only F a b) (k : Only F b c) : Only F a c :=
  ⟨k.1.trans h.1, k.2.1.trans h.2.1, k.2.2.1.trans h.2.2.1, Nat.le_trans h.2.2.2.1 k.2.2.2.1,
    fun i hi hn => (k.2.2.2.2 i (Nat.lt_of_lt_of_le hi h.2.2.2.1) hn).trans (h.2.2.2.2 i hi hn)⟩
theorem Only.mono {F G : Nat → Prop} {a b : World} (h : Only F a b) (hFG : ∀ k, k < a.heap.size → F k → G k) : Only G a b :=
  ⟨h.1, h.2.1, h.2.2.1, h.2.2.2.1, fun i hi hn => h.2.2.2.2 i hi (fun hf => hn (hFG i hi hf))⟩
theorem Only.drew {F : Nat → Prop} {a b : World} (h : Only F a b) : Only F a b.drew := ⟨h.1, h.2.1, h.2.2.1, h.2.2.2.1, h.2.2.2.2⟩
theorem Only.drewN {F : Nat → Prop} {a b : World} (h : Only F a b) (n : Nat) : Only F a (b.drewN n) := ⟨h.1, h.2.1, h.2.2.1, h.2.2.2.1, h.2.2.2.2⟩
theorem Only.heap {F : Nat → Prop} {a b : World} (h : Only F a b) {k : Nat} (hk : k < a.heap.size) (hn : ¬ F k) : b.heap[k]? = a.heap[k]? := h.2.2.2.2 k hk hn
theorem Only.size {F : Nat → Prop} {a b : World} (h : Only F a b) : a.heap.size ≤ b.heap.size := h.2.2.2.1
theorem Only.alloc {F : Nat → Prop} {a b : World} (h : Only F a b) (o : Obj) : Only F a (b.alloc o) :=
  ⟨h.1, h.2.1, h.2.2.1, Nat.le_trans h.2.2.2.1 (by simp), fun i hi hn => (Below.heap_alloc b o i (Nat.lt_of_lt_of_le hi h.size)).trans (h.2.2.2.2 i hi hn)⟩
theorem Only.setCell {F : Nat → Prop} {a b : World} (h : Only F a b) {p : Addr} (hp : F p.block ∨ a.heap.size ≤ p.block) (u : Value) : Only F a (b.setCell p u) :=
  ⟨h.1, h.2.1, h.2.2.1, by simpa [World.setCell] using h.2.2.2.1, fun i hi hn => (Below.heap_setCell b p u i (by
    rintro rfl
    rcases hp with hp | hp
    · exact hn hp
    · omega)).trans (h.2.2.2.2 i hi hn)⟩
theorem Only.grown {F : Nat → Prop} {a b c : World} {row : Option Nat} (h : Only F a b) (hg : b.grownBy c row) (hr : ∀ k, row = some k → F k ∨ a.heap.size ≤ k) : Only F a c :=
  ⟨hg.os.trans h.1, hg.tape.trans h.2.1, hg.output.trans h.2.2.1, Nat.le_trans h.2.2.2.1 hg.size, fun i hi hn => (hg.block i (Nat.lt_of_lt_of_le hi h.size) (fun e => by
    rcases hr i e.symm with h1 | h1
    · exact hn h1
    · omega)).trans (h.2.2.2.2 i hi hn)⟩
/-- a later step that touches 'F' or what is newer than 'a' -/
theorem Only.step {F G : Nat → Prop} {a b c : World} (h : Only F a b) (k : Only G b c) (hG : ∀ i, i < a.heap.size → G i → F i) : Only F a c :=
  ⟨k.1.trans h.1, k.2.1.trans h.2.1, k.2.2.1.trans h.2.2.1, Nat.le_trans h.size k.size, fun i hi hn =>
    (k.2.2.2.2 i (Nat.lt_of_lt_of_le hi h.size) (fun hg => hn (hG i hi hg))).trans (h.2.2.2.2 i hi hn)⟩

/-- Give the world at hand a name. -/
theorem name_world {P : Program} {c : Code} {Q : Exit → Act → World → Prop} {a : Act} {W : World} (h : ∀ X, X = W → Code.wp P c Q a X) : Code.wp P c Q a W := h W rfl

theorem name_worldC {P : Program} {f : FuncId} {args : Array Value} {W : World} {R : Ending → World → Prop} (h : ∀ X, X = W → Calls P f args X R) : Calls P f args W R := h W rfl

/-- Block b is just the cells cs, none frozen. -/
def Vr (w : World) (b : Nat) (t : TypeId) (cs : Array Value) : Prop := w.heap[b]? = some (.cells cs t (0, 0))
section
variable {w w' : World} {b : Nat} {t : TypeId} {cs : Array Value}
theorem Vr.lt (h : Vr w b t cs) : b < w.heap.size := by
  rcases Nat.lt_or_ge b w.heap.size with h1 | h1
  · exact h1
  · unfold Vr at h; rw [Array.getElem?_eq_none h1] at h; cases h
theorem Vr.cell (h : Vr w b t cs) (i : Nat) : w.cell? ⟨b, i, none⟩ = cs[i]? := by
  unfold Vr at h
  simp [World.cell?, h]
theorem Vr.frozen (h : Vr w b t cs) (i : Nat) : w.frozen? ⟨b, i, none⟩ = false := by
  unfold Vr at h
  simp [World.frozen?, h]
theorem Vr.facts (h : Vr w b t cs) : b < w.heap.size ∧ (∀ i, w.cell? ⟨b, i, none⟩ = cs[i]?) ∧ (∀ i, w.frozen? ⟨b, i, none⟩ = false) := ⟨h.lt, h.cell, h.frozen⟩
theorem Vr.new (w : World) (t : TypeId) (cs : Array Value) : Vr (w.alloc (.cells cs t)) w.heap.size t cs := by
  show (w.heap.push _)[w.heap.size]? = _
  simp
theorem Vr.same (h : Vr w b t cs) (he : w'.heap[b]? = w.heap[b]?) : Vr w' b t cs := he.trans h
theorem Vr.keep {B : Nat} (h : Vr w b t cs) (hb : Below B w w') (hB : b < B) : Vr w' b t cs := h.same (hb.block b hB)
theorem Vr.call (h : Vr w b t cs) (hb : Below w.heap.size w w') : Vr w' b t cs := h.keep hb h.lt
theorem Vr.drew (h : Vr w b t cs) : Vr w.drew b t cs := h
theorem Vr.drewN (h : Vr w b t cs) (n : Nat) : Vr (w.drewN n) b t cs := h
theorem Vr.alloc (h : Vr w b t cs) (o : Obj) : Vr (w.alloc o) b t cs := h.same (Below.heap_alloc w o b h.lt)
theorem Vr.set (h : Vr w b t cs) (i : Nat) (u : Value) : Vr (w.setCell ⟨b, i, none⟩ u) b t (cs.setIfInBounds i u) := by
  unfold Vr at h ⊢
  simp [World.setCell, Array.getElem?_modify, h]
theorem Vr.far (h : Vr w b t cs) {p : Addr} (hp : b ≠ p.block) (u : Value) : Vr (w.setCell p u) b t cs := h.same (Below.heap_setCell w p u b hp)
theorem Vr.only {F : Nat → Prop} (h : Vr w b t cs) (hk : Only F w w') (hF : ¬ F b) : Vr w' b t cs := h.same (hk.heap h.lt hF)
theorem Vr.grown {row : Option Nat} (h : Vr w b t cs) (hb : w.grownBy w' row) (hg : some b ≠ row) : Vr w' b t cs := h.same (hb.block b h.lt hg)
end

/-! ### A slice that reads as a list of cells -/
/-- The slice at 'A' with n elements of sz cells each reads xs, in a block below B. -/
def Rd (w : World) (B sz : Nat) (A : Option Addr) (n : Nat) (xs : List Value) : Prop :=
  xs.length = n * sz ∧ (xs ≠ [] → ∃ b o, A = some ⟨b, o, none⟩ ∧ b < B ∧ ∀ j u, xs[j]? = some u → w.cell? ⟨b, o + j, none⟩ = some u)
section
variable {w w' : World} {B B' sz n : Nat} {A : Option Addr} {xs : List Value}
theorem Rd.nil (A : Option Addr) : Rd w B sz A 0 [] := ⟨by simp, fun h => absurd rfl h⟩
theorem Rd.keep (h : Rd w B sz A n xs) (hk : ∀ b, b < B → w'.heap[b]? = w.heap[b]?) : Rd w' B sz A n xs :=
  ⟨h.1, fun hx => by
    obtain ⟨b, o, e, hb, hc⟩ := h.2 hx
    exact ⟨b, o, e, hb, fun j u hu => (World.cell?_of_block (w := w) (a := ⟨b, o + j, none⟩) (hk b hb)).trans (hc j u hu)⟩⟩
theorem Rd.below (h : Rd w B sz A n xs) (hb : Below B' w w') (hB : B ≤ B') : Rd w' B sz A n xs := h.keep fun b h1 => hb.block b (Nat.lt_of_lt_of_le h1 hB)
theorem Rd.only {F : Nat → Prop} (h : Rd w B sz A n xs) (hb : Only F w w') (hB : B ≤ w.heap.size) (hF : ∀ b, b < B → ¬ F b) : Rd w' B sz A n xs :=
  h.keep fun b h1 => hb.heap (Nat.lt_of_lt_of_le h1 hB) (hF b h1)
theorem Rd.more (h : Rd w B sz A n xs) (hB : B ≤ B') : Rd w B' sz A n xs :=
  ⟨h.1, fun hx => by
    obtain ⟨b, o, e, hb, hc⟩ := h.2 hx
    exact ⟨b, o, e, Nat.lt_of_lt_of_le hb hB, hc⟩⟩
theorem Rd.drew (h : Rd w B sz A n xs) : Rd w.drew B sz A n xs := h
theorem Rd.drewN (h : Rd w B sz A n xs) (k : Nat) : Rd (w.drewN k) B sz A n xs := h
theorem Rd.of_own {base : Nat} {e : TypeId} {v : Value} (h : w.ownsRow base e sz v n xs) : ∃ A c, v = .slice A n c ∧ n ≤ c ∧ c ≤ maxLen ∧ Rd w w.heap.size sz A n xs := by
  obtain ⟨hl, h2⟩ := h
  rcases h2 with ⟨rfl, rfl⟩ | ⟨g, cap, cur, rfl, hg, hh, hn, hm, hs, ht⟩
  · have : xs = [] := List.eq_nil_of_length_eq_zero (by simpa using hl)
    subst this
    exact ⟨none, 0, rfl, Nat.le_refl _, by simp [maxLen], Rd.nil _⟩
  · refine ⟨_, _, rfl, hn, hm, hl, fun _ => ⟨g, 0, rfl, ?_, fun j u hu => ?_⟩⟩
    · rcases Nat.lt_or_ge g w.heap.size with h1 | h1
      · exact h1
      · rw [Array.getElem?_eq_none h1] at hh; cases hh
    · rw [Nat.zero_add, World.cell?]
      simp only [hh]
      have h2 : (cur.toList.take (n * sz))[j]? = some u := by rw [ht]; exact hu
      rw [List.getElem?_take] at h2
      split at h2
      · simpa using h2
      · cases h2
theorem Rd.open1 {k : Nat} (h : Rd w B 1 A n xs) (hk : k < n) : ∃ b o, A = some ⟨b, o, none⟩ ∧ b < B ∧ w.cell? ⟨b, o + k, none⟩ = some (xs[k]'(by have := h.1; omega)) := by
  have hl : k < xs.length := by have := h.1; omega
  obtain ⟨b, o, e, hb, hc⟩ := h.2 (by intro e; rw [e] at hl; simp at hl)
  exact ⟨b, o, e, hb, hc k _ (List.getElem?_eq_getElem hl)⟩
end
theorem listElem {α β : Type} (f : α → β) (l : List α) (k : Nat) (h : k < (l.map f).length) : (l.map f)[k] = f (l[k]'(by simpa using h)) := by simp
/-- an int slice: element k -/
theorem Rd.openMap {α : Type} {w : World} {B n : Nat} {A : Option Addr} {f : α → Value} {l : List α} {k : Nat} (h : Rd w B 1 A n (l.map f)) (hk : k < n) :
    ∃ b o, ∃ hl : k < l.length, A = some ⟨b, o, none⟩ ∧ b < B ∧ w.cell? ⟨b, o + k, none⟩ = some (f l[k]) := by
  have hl : k < l.length := by have := h.1; simp at this; omega
  obtain ⟨b, o, e, hb, hc⟩ := h.open1 hk
  exact ⟨b, o, hl, e, hb, by simpa using hc⟩

/-- A slice of integers that came in. -/
theorem rd_ints {H : Type} {enc : TypeId × Value → H} {P : Program} {W : World} {r : Reach} {b0 : Nat} {t e : TypeId} {k : IntKind} {v : Value} {d : DataW H} {ps : List MemPlace} (ht : P.underlying t = some (.slice e)) (he : P.underlying e = some (.int k)) (hc : P.cellsOf e = 1)
    (hval : Value.okWide P W r b0 t v) (h : DataW.Trod enc P W 0 (fun _ => true) true t v d ps) :
    ∃ (A : Option Addr) (n c : Nat) (l : List Int), v = .slice A n c ∧ n ≤ c ∧ c ≤ maxLen ∧ l.length = n ∧ Rd W W.heap.size 1 A n (l.map (Value.int k)) ∧ ∀ x ∈ l, (Lit.int k x).wf = true := by
  obtain ⟨a0, len, cap, rfl⟩ := okWide_slice ht hval
  obtain ⟨fuel, hf⟩ := h
  rcases open_ints ht he hc hf with ⟨hcs, hx⟩ | ⟨a, len', cap', zs, hcs, _, hl, hm, hz, hx, hcell, hwz⟩
  · have hcs : [Value.slice a0 len cap] = [.slice none 0 0] := hcs
    injection hcs with hcs _
    injection hcs with h1 h2 h3
    subst h1 h2 h3
    exact ⟨none, 0, 0, [], rfl, Nat.le_refl _, by simp [maxLen], rfl, Rd.nil _, by simp⟩
  · have hcs : [Value.slice a0 len cap] = [.slice (some a) len' cap'] := hcs
    injection hcs with hcs _
    injection hcs with h1 h2 h3
    subst h1 h2 h3
    have hz : zs.length = cap := hz
    refine ⟨some a, len, cap, zs.take len, rfl, hl, hm, by rw [List.length_take]; omega, ⟨by simp; omega, fun hne => ?_⟩, fun x hx => hwz x (List.mem_of_mem_take hx)⟩
    have h0 : 0 < zs.length := by
      rcases Nat.eq_zero_or_pos zs.length with h0 | h0
      · have : zs = [] := List.eq_nil_of_length_eq_zero h0
        subst this
        simp at hne
      · exact h0
    obtain ⟨b, off, rfl, hc⟩ := ints_at hcell h0
    refine ⟨b, off, rfl, World.block_lt_of_cell? W ⟨b, off + 0, none⟩ (hc 0 h0), fun j u hu => ?_⟩
    have hj : j < len ∧ j < zs.length := by
      obtain ⟨hj, _⟩ := List.getElem?_eq_some_iff.1 hu
      simp at hj
      omega
    rw [hc j hj.2]
    simp [hj.1, hj.2] at hu
    simp [List.getD, hj.2, hu]

/-! ### The row's last step, for every law at once -/
section
variable {H : Type} {enc : TypeId × Value → H} {P : Program}
theorem trodAll_stays (hl : laidOutB P = true) {W W' : World} (hb : Below W.heap.size W W') : ∀ (ts : List TypeId) (vs : List Value) (ds : List (DataW H)) (ps : List MemPlace),
    (∀ t ∈ ts, P.readableRec t = true ∧ t < P.types.size) → DataW.TrodAll enc P W 0 (fun _ => true) true ts vs ds ps → (∀ x ∈ ps, x.block < W.heap.size) →
    DataW.TrodAll enc P W' 0 (fun b => decide (b < W.heap.size)) true ts vs ds ps
  | [], vs, ds, ps, _, h, _ => by
    cases vs <;> cases ds <;> simp [DataW.TrodAll] at h ⊢
    exact h
  | t :: ts, vs, ds, ps, hr, h, hp => by
    obtain ⟨v, vs', d, ds', p, q, rfl, rfl, rfl, h0, r0⟩ := Go.ChangeShapes.trodAll_cons h
    refine trodAll_cons_mk (Below.trod hl (hr t (List.mem_cons_self ..)).1 (hr t (List.mem_cons_self ..)).2 h0 hb (fun x hx => hp x (by simp [hx]))) ?_
    exact trodAll_stays hl hb ts vs' ds' q (fun t' ht => hr t' (List.mem_cons_of_mem _ ht)) r0 (fun x hx => hp x (by simp [hx]))

/-- The call returned true and left all old memory: that is what the row asks. -/
theorem post_law {f : Func} {s : ChangeSpec} {W W' : World} {args : Array Value} {ds gs : List (DataW H)} {before : List MemPlace} {tb : TypeId}
    (hl : laidOutB P = true) (hr : ∀ t ∈ f.params.toList, P.readableRec t = true ∧ t < P.types.size) (hT : f.resultTypes = #[tb]) (htb : P.underlying tb = some .bool) (hv : s.vars = [])
    (hW : DataW.Whole enc P f.params.toList s.vars false W args.toList ds gs before) (hb : Below W.heap.size W W')
    (hres : (s.fn H (ds ++ gs)).results = [.lit (.bool true)]) (harg : (s.fn H (ds ++ gs)).args = ds) (hvars : (s.fn H (ds ++ gs)).vars = []) :
    s.post enc P f false true false false W args (.bool true) W' := by
  have hW0 := hW
  obtain ⟨p, q, hA, hV, rfl, hz, hn⟩ := hW
  have hlt : ∀ x ∈ p ++ q, x.block < W.heap.size := fun x hx => DataW.Whole.lt hW0 x hx
  have hq : q = [] := by rw [hv] at hV; exact (Go.ChangeShapes.trodVars_none hV).2
  subst hq
  refine ⟨ds, gs, p ++ [], [], p, [], hW0, ?_, ?_, ?_, hb.frame _, fun h => by cases h⟩
  · rw [hres, hT]
    exact trodAll_cons_mk (shut_bool htb _) Go.ChangeShapes.trodAll_mk0
  · rw [harg]
    exact trodAll_stays hl hb _ _ _ _ hr hA (fun x hx => hlt x (by simp [hx]))
  · rw [hv, hvars]
    rfl
end
end Go.Proofs.Ytdjmaljldajpiaa
