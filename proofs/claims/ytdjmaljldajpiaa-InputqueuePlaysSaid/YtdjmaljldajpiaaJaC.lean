/-
  WHAT IS PROVED HERE: the state of the law InputqueuePlays' loop; the reference's Offer by footprints. No condition beyond what each theorem states.
-/
import Derived.Test.YtdjmaljldajpiaaJaB
import Derived.Test.YtdjmaljldajpiaaIqL
namespace Go.Proofs.Ytdjmaljldajpiaa
set_option linter.unusedVariables false
open Go.ChangeShapes Go.WideShapes Go.ChangeAt Go.RowKit

/-- The queue, the box of the reference's, or both. -/
def FB (p b : Nat) (g : Option Nat) (bq : Nat) : Nat → Prop := fun j => Foot p b g j ∨ j = bq
theorem refoffer_F (F : Nat → Prop) (k wt : Nat) (AL : Option Addr) (cL : Nat) (AR : Option Addr) (nR cR : Nat) (AM : Option Addr) (nM cM : Nat) (L : List OneV) (now player tick : Int) (x y z : Int) (w : World) (rd : RdF w F 5 AL L.length (onesC L)) (hF : ∀ j, F j → j < w.heap.size) (hnL : L.length ≤ 100000) (hn : -1000000 ≤ now ∧ now ≤ 1000000) (E : Int) (L' : List OneV) (hE : refE k nR L now player tick (x, y, z) = E) (hL' : refL k nR L now player tick (x, y, z) = L') :
    Calls Try.prog 15 #[.agg #[.int .i64 k, .int .i64 wt, .slice AL L.length cL, .slice AR nR cR, .slice AM nM cM], .int .i64 now, .int .i64 player, .int .i64 tick, .agg #[.int .i64 x, .int .i64 y, .int .i64 z]] w fun e w' =>
      ∃ A c, e = .returned (.tuple #[.agg #[.int .i64 k, .int .i64 wt, .slice A L'.length c, .slice AR nR cR, .slice AM nM cM], .int .i64 E]) ∧ RdF w' F 5 A L'.length (onesC L') ∧ Below w.heap.size w w' := by
  subst hE hL'
  unfold refL
  by_cases he : refE k nR L now player tick (x, y, z) = 0
  · rw [if_pos he, he]
    refine (refoffer_ok k wt AL L.length cL AR nR cR AM nM cM L now player tick x y z w rd.1 hnL hn he).mono ?_
    rintro e w' ⟨A, c, h1, h2, h3, h4⟩
    have hl : (L ++ [(player, tick, (x, y, z))]).length = L.length + 1 := by simp
    refine ⟨A, c, by rw [hl]; exact h1, ⟨by rw [hl]; exact h2, fun ad e => ?_⟩, h3⟩
    obtain ⟨b, o, hl, hA, hb, _⟩ := h2.openOne (k := 0) (by omega)
    rw [hA] at e
    injection e with e
    subst e
    have h5 : w.heap.size ≤ b := h4 _ hA
    exact ⟨hb, fun hf => by have h6 : b < w.heap.size := hF _ hf; omega⟩
  · rw [if_neg he]
    refine (refoffer_bad k wt AL L.length cL AR nR cR AM nM cM L now player tick x y z w rd.1 hnL hn he).mono ?_
    rintro e w' ⟨h1, h2⟩
    exact ⟨AL, cL, h1, rd.call h2, h2⟩
/-- What holds at the head of a round. -/
structure PL (w wr : World) (p b : Nat) (g : Option Nat) (k wt i bq m : Nat) (Aa : Option Addr) (l : List Int) (AL : Option Addr) (cL : Nat) (AR : Option Addr) (cR : Nat) (AM : Option Addr) (cM : Nat) (L : List OneV) (s : QS) : Prop where
  q : Iqu wr p b g k wt i s.1 s.2
  len : s.2.length ≤ 6000
  v : Vr wr bq 30 #[.int .i64 k, .int .i64 wt, .slice AL L.length cL, .slice AR s.2.length cR, .slice AM s.2.length cM]
  r : RQ wr (FB p b g bq) k AL L AR AM s.2
  a : RdF wr (FB p b g bq) 7 Aa m (actsC l k m)
  f : ¬ Foot p b g bq
  lp : LPV s.2.length s.1 L
  ln : L.length ≤ i
  hF : ∀ j, Foot p b g j → w.heap.size ≤ j
  hq : w.heap.size ≤ bq
  hb : Below w.heap.size w wr
section
variable {w wr w' : World} {p b : Nat} {g g' : Option Nat} {k wt i i' bq m : Nat} {Aa : Option Addr} {l : List Int} {AL AL' : Option Addr} {cL cL' : Nat} {AR AR' : Option Addr} {cR cR' : Nat} {AM AM' : Option Addr} {cM cM' : Nat} {L L' : List OneV} {s s' : QS}
theorem PL.lt (H : PL w wr p b g k wt i bq m Aa l AL cL AR cR AM cM L s) : ∀ j, FB p b g bq j → j < wr.heap.size := fun j h => by
  rcases h with h | h
  · exact H.q.lt j h
  · rw [h]; exact H.v.lt
theorem PL.call (H : PL w wr p b g k wt i bq m Aa l AL cL AR cR AM cM L s) (hb : Below wr.heap.size wr w') : PL w w' p b g k wt i bq m Aa l AL cL AR cR AM cM L s :=
  ⟨H.q.below hb, H.len, H.v.call hb, H.r.call hb, H.a.call hb, H.f, H.lp, H.ln, H.hF, H.hq, b_call H.hb hb⟩
theorem PL.up (H : PL w wr p b g k wt i bq m Aa l AL cL AR cR AM cM L s) (hi : i ≤ i') : PL w wr p b g k wt i' bq m Aa l AL cL AR cR AM cM L s :=
  ⟨H.q.more hi, H.len, H.v, H.r, H.a, H.f, H.lp, Nat.le_trans H.ln hi, H.hF, H.hq, H.hb⟩
/-- What lies outside stays outside. -/
theorem mv_out {W W' : World} (hM : Mv W W' p b g g') {j : Nat} (hj : j < W.heap.size) (h : FB p b g' bq j) : FB p b g bq j := by
  rcases h with h | h
  · by_cases hf : Foot p b g j
    · exact .inl hf
    · exact absurd h (hM.away hj hf).2
  · exact .inr h
theorem RdF.mv {W W' : World} {sz n : Nat} {A : Option Addr} {xs : List Value} (h : RdF W (FB p b g bq) sz A n xs) (hM : Mv W W' p b g g') : RdF W' (FB p b g' bq) sz A n xs := by
  have h1 : RdF W (fun j => FB p b g bq j ∨ FB p b g' bq j) sz A n xs := h.weak fun j hj hh => hh.elim id (mv_out hM hj)
  exact (h1.only (hM.2.mono fun j _ hf => .inl (.inl hf))).weak fun j _ hh => .inr hh
theorem RQ.mv {W W' : World} {rows : List RowV} (h : RQ W (FB p b g bq) k AL L AR AM rows) (hM : Mv W W' p b g g') : RQ W' (FB p b g' bq) k AL L AR AM rows := by
  have h1 : RQ W (fun j => FB p b g bq j ∨ FB p b g' bq j) k AL L AR AM rows := h.weak fun j hj hh => hh.elim id (mv_out hM hj)
  exact (h1.only (hM.2.mono fun j _ hf => .inl (.inl hf))).weak fun j _ hh => .inr hh
/-- The queue has moved, the reference's new state is laid into its box. -/
theorem PL.next {W0 W1 W2 : World} (H : PL w wr p b g k wt i bq m Aa l AL cL AR cR AM cM L s) (hb0 : Below wr.heap.size wr W0) (hR : RQ W0 (FB p b g bq) k AL' L' AR' AM' s'.2) (hI : Iqu W1 p b g' k wt i' s'.1 s'.2) (hM : Mv W0 W1 p b g g') (hb1 : Below W1.heap.size W1 W2) (hO : Only (· = bq) W2 w')
    (hV : Vr w' bq 30 #[.int .i64 k, .int .i64 wt, .slice AL' L'.length cL', .slice AR' s'.2.length cR', .slice AM' s'.2.length cM']) (hl : s'.2.length ≤ 6000) (hp : LPV s'.2.length s'.1 L') (hn : L'.length ≤ i') : PL w w' p b g' k wt i' bq m Aa l AL' cL' AR' cR' AM' cM' L' s' := by
  have h0 := b_call H.hb hb0
  have hbq : bq < W0.heap.size := Nat.lt_of_lt_of_le H.v.lt hb0.size
  have hf2 : ¬ Foot p b g' bq := (hM.away hbq H.f).2
  have hB := hM.belowB h0.size H.hF
  have h1 := b_call (h0.trans hB.1) hb1
  exact ⟨(hI.below hb1).only hO (fun j hj e => hf2 (e ▸ hj)), hl, hV, ((hR.mv hM).call hb1).only (hO.mono fun j _ e => .inr e), (((H.a.call hb0).mv hM).call hb1).only (hO.mono fun j _ e => .inr e), hf2, hp, hn, hB.2, H.hq, h1.trans (hO.below h1.size (by rintro j rfl; exact H.hq))⟩
end
theorem only_cellF {F : Nat → Prop} {a w : World} (h : Only F a w) {b o : Nat} {v : Value} (hc : a.cell? ⟨b, o, none⟩ = some v) (hn : ¬ F b) : w.cell? ⟨b, o, none⟩ = some v :=
  (World.cell?_of_block (w := a) (a := ⟨b, o, none⟩) (h.heap (World.block_lt_of_cell? a _ hc) hn)).trans hc
end Go.Proofs.Ytdjmaljldajpiaa
