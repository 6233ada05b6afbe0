/-
  WHAT IS PROVED HERE: the state of the law MerklePartial's loops. No condition beyond what each theorem states.
-/
import Derived.Test.YtgelhcgaacnjcaaMlE
import Derived.Test.YtgelhcgaacnjcaaMkN
import Derived.Test.YtgelhcgaacnjcaaHlpHas
namespace Go.Proofs.Ytgelhcgaacnjcaa
set_option linter.unusedVariables false
open Go.ChangeShapes Go.WideShapes Go.ChangeAt Go.RowKit

theorem own_other {w w' : World} {b1 b2 sz1 sz2 n1 n2 : Nat} {e1 e2 : TypeId} {v1 v2 : Value} {xs1 xs2 : List Value} (h : w.ownsRow b1 e1 sz1 v1 n1 xs1) (k : w.ownsRow b2 e2 sz2 v2 n2 xs2) (he : e1 ≠ e2) (hg : w.grownBy w' v2.ownBlock) : w'.ownsRow b1 e1 sz1 v1 n1 xs1 :=
  own_keptL h fun j cur hc _ => hg.block j (Array.getElem?_eq_some_iff.1 hc).1 fun e => by
    obtain ⟨_, cur2, h2⟩ := own_cells k e.symm
    rw [hc] at h2
    injection h2 with h2
    injection h2 with _ h2 _
    exact he h2
theorem LfOwn.other {w w' : World} {lo b2 sz2 n2 : Nat} {rs : List LfR} {e2 : TypeId} {v2 : Value} {xs2 : List Value} (h : LfOwn w lo rs) (k : w.ownsRow b2 e2 sz2 v2 n2 xs2) (he : 22 ≠ e2) (hg : w.grownBy w' v2.ownBlock) : LfOwn w' lo rs := fun r hr => own_other (h r hr) k he hg
/-- What holds at the head of a round of the second loop. -/
structure SP (W wr : World) (g bc bn gp bcp bnp N : Nat) (A9 : Option Addr) (c9 : Nat) (Ao : Option Addr) (m co : Nat) (cs ks : List Int) (f : Nat → Int) (M : Nat) : Prop where
  P : PT wr gp bcp bnp M cs ks
  T : Tr wr g bc bn cs f
  L : cs.length = N
  o9 : wr.ownsRow W.heap.size 3 1 (.slice A9 N c9) N (cs.map (Value.int .i64))
  rk : wr.ownsRow W.heap.size 3 1 (.slice Ao m co) m (ks.map (Value.int .i64))
  b9 : ∀ x, (Value.slice A9 N c9).ownBlock = some x → ¬ TF g bc bn x ∧ ¬ TF gp bcp bnp x ∧ ¬ (Value.slice Ao m co).ownBlock = some x
  bk : ∀ x, (Value.slice Ao m co).ownBlock = some x → ¬ TF g bc bn x ∧ ¬ TF gp bcp bnp x
  dd : ∀ x, TF g bc bn x → ¬ TF gp bcp bnp x
  tw : ∀ x, TF g bc bn x → W.heap.size ≤ x
  tp : ∀ x, TF gp bcp bnp x → W.heap.size ≤ x
  kb : ∀ x ∈ ks, 0 ≤ x ∧ x < (N : Int)
  hb : Below W.heap.size W wr
section
variable {W wr w4 w6 : World} {g bc bn gp bcp bnp N : Nat} {A9 : Option Addr} {c9 : Nat} {Ao : Option Addr} {m co : Nat} {cs ks : List Int} {f f' : Nat → Int} {M M' : Nat}
theorem SP.call (S : SP W wr g bc bn gp bcp bnp N A9 c9 Ao m co cs ks f M) (hb : Below wr.heap.size wr w4) : SP W w4 g bc bn gp bcp bnp N A9 c9 Ao m co cs ks f M :=
  ⟨S.P.call hb, S.T.call hb, S.L, own_below S.o9 hb, own_below S.rk hb, S.b9, S.bk, S.dd, S.tw, S.tp, S.kb, b_call S.hb hb⟩
/-- an assignment to a known cell, of the partial tree -/
theorem SP.mid (S : SP W wr g bc bn gp bcp bnp N A9 c9 Ao m co cs ks f M) (hO : Only (fun k => k = bcp ∨ k = bnp) wr w4) :
    Tr w4 g bc bn cs f ∧ w4.ownsRow W.heap.size 3 1 (.slice A9 N c9) N (cs.map (Value.int .i64)) ∧ w4.ownsRow W.heap.size 3 1 (.slice Ao m co) m (ks.map (Value.int .i64)) ∧ Below W.heap.size W w4 :=
  ⟨S.T.only hO (fun k hk e => S.dd k hk (.inr e)), own_only S.o9 hO (fun k e h => (S.b9 k e).2.1 (.inr h)), own_only S.rk hO (fun k e h => (S.bk k e).2 (.inr h)), S.hb.trans (hO.below (B := W.heap.size) S.hb.size (fun k h => S.tp k (.inr h)))⟩
theorem SP.fin {g9 k : Nat} {v : Int} (S : SP W wr g bc bn gp bcp bnp N A9 c9 Ao m co cs ks f M) (h9 : A9 = some ⟨g9, 0, none⟩) (hk : k < N) (hP : PT w4 gp bcp bnp M' (cs.set k v) ks) (hO : Only (fun k => k = bcp ∨ k = bnp) wr w4)
    (hT : Tr w6 g bc bn (cs.set k v) f') (hO6 : Only (fun k => k = bc ∨ k = bn) (w4.setCell ⟨g9, k, none⟩ (.int .i64 v)) w6) : SP W w6 g bc bn gp bcp bnp N A9 c9 Ao m co (cs.set k v) ks f' M' := by
  obtain ⟨T4, o4, r4, B4⟩ := S.mid hO
  subst h9
  have hb9 := S.b9 g9 (by simp [Value.ownBlock])
  have O5 : Only (· = g9) w4 (w4.setCell ⟨g9, k, none⟩ (.int .i64 v)) := o_set (Only.refl _ _) _ _
  have h9w := (own_cells o4 (k := g9) (by simp [Value.ownBlock])).1
  have o5 := own_set o4 k (.int .i64 v)
  rw [show (cs.map (Value.int .i64)).set k (.int .i64 v) = (cs.set k v).map (Value.int .i64) from by rw [List.map_set]] at o5
  have B5 := B4.trans (O5.below (B := W.heap.size) B4.size (fun j e => by rw [e]; exact h9w))
  refine ⟨(hP.only O5 (fun j hj e => hb9.2.1 (e ▸ hj))).only hO6 (fun j hj e => S.dd j (.inr e) hj), hT, by rw [List.length_set]; exact S.L, own_only o5 hO6 (fun j e h => (S.b9 j e).1 (.inr h)), own_only (own_only r4 O5 (fun j e h => hb9.2.2 (by rw [← h]; exact e))) hO6 (fun j e h => (S.bk j e).1 (.inr h)), S.b9, S.bk, S.dd, S.tw, S.tp, S.kb, B5.trans (hO6.below (B := W.heap.size) B5.size (fun j h => S.tw j (.inr h)))⟩
theorem SP.midT {g9 k : Nat} {v : Int} (S : SP W wr g bc bn gp bcp bnp N A9 c9 Ao m co cs ks f M) (h9 : A9 = some ⟨g9, 0, none⟩) (hO : Only (fun k => k = bcp ∨ k = bnp) wr w4) : Tr (w4.setCell ⟨g9, k, none⟩ (.int .i64 v)) g bc bn cs f ∧ Below W.heap.size W (w4.setCell ⟨g9, k, none⟩ (.int .i64 v)) := by
  obtain ⟨T4, o4, r4, B4⟩ := S.mid hO
  subst h9
  have hb9 := S.b9 g9 (by simp [Value.ownBlock])
  have O5 : Only (· = g9) w4 (w4.setCell ⟨g9, k, none⟩ (.int .i64 v)) := o_set (Only.refl _ _) _ _
  have h9w := (own_cells o4 (k := g9) (by simp [Value.ownBlock])).1
  exact ⟨T4.only O5 (fun j hj e => hb9.1 (e ▸ hj)), B4.trans (O5.below (B := W.heap.size) B4.size (fun j e => by rw [e]; exact h9w))⟩
end
end Go.Proofs.Ytgelhcgaacnjcaa
