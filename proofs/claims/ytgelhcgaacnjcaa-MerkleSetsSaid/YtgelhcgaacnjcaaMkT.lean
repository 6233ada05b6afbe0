/-
  WHAT IS PROVED HERE: the state of the law MerkleSets' loops. No condition beyond what each theorem states.
-/
import Derived.Test.YtgelhcgaacnjcaaMkS
namespace Go.Proofs.Ytgelhcgaacnjcaa
set_option linter.unusedVariables false
open Go.ChangeShapes Go.WideShapes Go.ChangeAt Go.RowKit

/-- the assignments undone, the last first -/
def undo (cs : List Int) (pl : List (Nat × Int)) : List Int := pl.foldr (fun p c => c.set p.1 p.2) cs
theorem undo_snoc (cs : List Int) (pl : List (Nat × Int)) (k : Nat) (v : Int) (hk : k < cs.length) : undo (cs.set k v) (pl ++ [(k, cs[k])]) = undo cs pl := by
  unfold undo
  rw [List.foldr_append]
  show List.foldr _ ((cs.set k v).set k cs[k]) pl = _
  rw [List.set_set, List.set_getElem_self]
theorem undo_last (cs : List Int) (pl : List (Nat × Int)) (p : Nat × Int) : undo cs (pl ++ [p]) = undo (cs.set p.1 p.2) pl := by
  unfold undo
  rw [List.foldr_append]
  rfl
theorem undo_len (cs : List Int) : ∀ (pl : List (Nat × Int)), (undo cs pl).length = cs.length
  | [] => rfl
  | p :: pl => by
    show ((undo cs pl).set p.1 p.2).length = _
    rw [List.length_set, undo_len cs pl]
def intV (v : Int) : Value := .int .i64 v
/-- What holds at the head of a round. -/
structure St (W wr : World) (g bc bn B N : Nat) (A9 : Option Addr) (c9 : Nat) (cs0 cs : List Int) (f : Nat → Int) (pl : List (Nat × Int)) (A10 : Option Addr) (c10 : Nat) (A11 : Option Addr) (c11 : Nat) (A1 : Option Addr) (c1 : Nat) : Prop where
  o1 : wr.ownsRow W.heap.size 3 1 (.slice A1 N c1) N (cs0.map (Value.int .i64))
  b1 : ∀ x, (Value.slice A1 N c1).ownBlock = some x → ¬ TF g bc bn x ∧ x < B ∧ ¬ (Value.slice A9 N c9).ownBlock = some x
  T : Tr wr g bc bn cs f
  L : cs.length = N
  o9 : wr.ownsRow W.heap.size 3 1 (.slice A9 N c9) N (cs.map (Value.int .i64))
  b9 : ∀ x, (Value.slice A9 N c9).ownBlock = some x → ¬ TF g bc bn x ∧ x < B
  o10 : wr.ownsRow B 3 1 (.slice A10 pl.length c10) pl.length (pl.map fun p => Value.int .i64 (p.1 : Nat))
  o11 : wr.ownsRow B 3 1 (.slice A11 pl.length c11) pl.length (pl.map fun p => Value.int .i64 p.2)
  d : ∀ x, (Value.slice A10 pl.length c10).ownBlock = some x → ¬ (Value.slice A11 pl.length c11).ownBlock = some x
  tf : ∀ x, TF g bc bn x → W.heap.size ≤ x ∧ x < B
  u : undo cs pl = cs0
  pb : ∀ p ∈ pl, p.1 < N
  hb : Below W.heap.size W wr
  hB : W.heap.size ≤ B ∧ B ≤ wr.heap.size
section
variable {W wr w4 : World} {g bc bn B N : Nat} {A9 : Option Addr} {c9 : Nat} {cs0 cs : List Int} {f f' : Nat → Int} {pl : List (Nat × Int)} {A10 : Option Addr} {c10 : Nat} {A11 : Option Addr} {c11 : Nat} {A1 : Option Addr} {c1 : Nat}
/-- an assignment outside of the cells -/
theorem St.out (S : St W wr g bc bn B N A9 c9 cs0 cs f pl A10 c10 A11 c11 A1 c1) (hT : Tr w4 g bc bn cs f') (hO : Only (fun k => k = bc ∨ k = bn) wr w4) : St W w4 g bc bn B N A9 c9 cs0 cs f' pl A10 c10 A11 c11 A1 c1 := by
  have hF : ∀ x, (x = bc ∨ x = bn) → TF g bc bn x := fun x h => .inr h
  exact ⟨own_only S.o1 hO (fun x e h => (S.b1 x e).1 (hF x h)), S.b1, hT, S.L, own_only S.o9 hO (fun x e h => (S.b9 x e).1 (hF x h)), S.b9, own_only S.o10 hO (fun x e h => by have := (own_cells S.o10 e).1; have := S.tf x (hF x h); omega), own_only S.o11 hO (fun x e h => by have := (own_cells S.o11 e).1; have := S.tf x (hF x h); omega),
    S.d, S.tf, S.u, S.pb, S.hb.trans (hO.below (B := W.heap.size) S.hb.size (fun x h => (S.tf x (hF x h)).1)), S.hB.1, Nat.le_trans S.hB.2 hO.size⟩
theorem St.call (S : St W wr g bc bn B N A9 c9 cs0 cs f pl A10 c10 A11 c11 A1 c1) (hb : Below wr.heap.size wr w4) : St W w4 g bc bn B N A9 c9 cs0 cs f pl A10 c10 A11 c11 A1 c1 :=
  S.out (S.T.call hb) (Only.of_below hb _ (fun k h1 h2 => by omega))
theorem St.inn {w5 w6 : World} {g9 k : Nat} {v : Int} {A10' : Option Addr} {c10' : Nat} {A11' : Option Addr} {c11' : Nat} (S : St W wr g bc bn B N A9 c9 cs0 cs f pl A10 c10 A11 c11 A1 c1) (hk : k < N) (hkl : k < cs.length) (h9 : A9 = some ⟨g9, 0, none⟩) (hT : Tr w4 g bc bn (cs.set k v) f') (hO : Only (fun k => k = bc ∨ k = bn) wr w4)
    (q10 : w5.ownsRow B 3 1 (.slice A10' (pl.length + 1) c10') (pl.length + 1) (pl.map (fun p => Value.int .i64 (p.1 : Nat)) ++ [.int .i64 (k : Nat)])) (hO5 : Only (fun x => (Value.slice A10 pl.length c10).ownBlock = some x) w4 w5) (r10 : ∀ x, (Value.slice A10' (pl.length + 1) c10').ownBlock = some x → (Value.slice A10 pl.length c10).ownBlock = some x ∨ w4.heap.size ≤ x)
    (q11 : w6.ownsRow B 3 1 (.slice A11' (pl.length + 1) c11') (pl.length + 1) (pl.map (fun p => Value.int .i64 p.2) ++ [.int .i64 cs[k]])) (hO6 : Only (fun x => (Value.slice A11 pl.length c11).ownBlock = some x) w5 w6) (r11 : ∀ x, (Value.slice A11' (pl.length + 1) c11').ownBlock = some x → (Value.slice A11 pl.length c11).ownBlock = some x ∨ w5.heap.size ≤ x) :
    St W (w6.setCell ⟨g9, k, none⟩ (.int .i64 v)) g bc bn B N A9 c9 cs0 (cs.set k v) f' (pl ++ [(k, cs[k])]) A10' c10' A11' c11' A1 c1 := by
  subst h9
  have hF : ∀ x, (x = bc ∨ x = bn) → TF g bc bn x := fun x h => .inr h
  have z10 : ∀ x, (Value.slice A10 pl.length c10).ownBlock = some x → B ≤ x ∧ x < wr.heap.size := fun x e => by
    obtain ⟨h1, cur, hc⟩ := own_cells S.o10 e
    exact ⟨h1, (Array.getElem?_eq_some_iff.1 hc).1⟩
  have z11 : ∀ x, (Value.slice A11 pl.length c11).ownBlock = some x → B ≤ x ∧ x < wr.heap.size := fun x e => by
    obtain ⟨h1, cur, hc⟩ := own_cells S.o11 e
    exact ⟨h1, (Array.getElem?_eq_some_iff.1 hc).1⟩
  have z10' : ∀ x, (Value.slice A10' (pl.length + 1) c10').ownBlock = some x → B ≤ x ∧ x < w5.heap.size := fun x e => by
    obtain ⟨h1, cur, hc⟩ := own_cells q10 e
    exact ⟨h1, (Array.getElem?_eq_some_iff.1 hc).1⟩
  have hs4 := hO.size
  have hs5 := hO5.size
  have hs6 := hO6.size
  have h9b := S.b9 g9 (by simp [Value.ownBlock])
  -- what lies below B and is no node lies as it lay
  have OB : Only (fun x => (x = bc ∨ x = bn) ∨ B ≤ x) wr w6 := (hO.mono fun x _ h => .inl h).trans ((hO5.mono fun x _ h => .inr (z10 x h).1).trans (hO6.mono fun x _ h => .inr (z11 x h).1))
  have O7 : Only (· = g9) w6 (w6.setCell ⟨g9, k, none⟩ (.int .i64 v)) := o_set (Only.refl _ _) _ _
  have O456 : Only (fun x => B ≤ x) w4 w6 := (hO5.mono fun x _ h => (z10 x h).1).trans (hO6.mono fun x _ h => (z11 x h).1)
  have lp : (pl ++ [(k, cs[k])]).length = pl.length + 1 := by simp
  refine ⟨own_only (own_only S.o1 OB (fun x e h => ?_)) O7 (fun x e h => ?_), S.b1, (hT.only O456 (fun x hx h => ?_)).only O7 (fun x hx h => ?_), by rw [List.length_set]; exact S.L, ?_, S.b9, ?_, ?_, ?_, S.tf, ?_, ?_, ?_, ⟨S.hB.1, ?_⟩⟩
  · have := S.b1 x e
    rcases h with h | h
    · exact this.1 (hF x h)
    · omega
  · have := S.b1 x e
    exact this.2.2 (by rw [h]; simp [Value.ownBlock])
  · have := S.tf x hx
    omega
  · rw [h] at hx
    exact h9b.1 hx
  · rw [List.map_set]
    exact own_set (own_only S.o9 OB (fun x e h => by
      have := S.b9 x e
      rcases h with h | h
      · exact this.1 (hF x h)
      · omega)) _ _
  · rw [lp, List.map_append]
    exact own_only (own_only q10 hO6 (fun x e h => by
      rcases r10 x e with h1 | h1
      · exact S.d x h1 h
      · have := (z11 x h).2; omega)) O7 (fun x e h => by have := (z10' x e).1; omega)
  · rw [lp, List.map_append]
    exact own_only q11 O7 (fun x e h => by have := (own_cells q11 e).1; omega)
  · intro x e1 e2
    rw [lp] at e1 e2
    rcases r10 x e1 with h1 | h1 <;> rcases r11 x e2 with h2 | h2
    · exact S.d x h1 h2
    · have := (z10 x h1).2; omega
    · have := (z11 x h2).2; omega
    · have := (z10' x e1).2; omega
  · rw [undo_snoc cs pl k v hkl]
    exact S.u
  · intro p hp
    rcases List.mem_append.1 hp with h | h
    · exact S.pb p h
    · simp at h
      rw [h]
      exact hk
  · exact S.hb.trans ((OB.below (B := W.heap.size) S.hb.size (fun x h => by
      rcases h with h | h
      · exact (S.tf x (hF x h)).1
      · have := S.hB.1; omega)).trans (O7.below (B := W.heap.size) (by have := S.hb.size; omega) (fun x h => by
        have := (own_cells S.o9 (k := g9) (by simp [Value.ownBlock])).1
        omega)))
  · have := S.hB.2
    have := O7.size
    omega
end
end Go.Proofs.Ytgelhcgaacnjcaa
