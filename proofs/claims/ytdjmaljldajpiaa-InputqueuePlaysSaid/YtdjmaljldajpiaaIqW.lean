/-
  WHAT IS PROVED HERE: the contract of the reference's Offer, for every input; the queue and its reference side by side. No condition but that both lie in memory as stated.
-/
import Derived.Test.YtdjmaljldajpiaaIqU2
namespace Go.Proofs.Ytdjmaljldajpiaa
set_option linter.unusedVariables false
open Go.ChangeShapes Go.WideShapes Go.ChangeAt Go.RowKit

/-- The accepted inputs behind an offer. -/
def refL (k n : Nat) (L : List OneV) (now player tick : Int) (x : Inp) : List OneV := if refE k n L now player tick x = 0 then L ++ [(player, tick, x)] else L
/-- The queue and a code come back. -/
def RetOffE (w : World) (k wt : Nat) (A0 : Option Addr) (AR : Option Addr) (nR cR : Nat) (AM : Option Addr) (nM cM : Nat) (L : List OneV) (E : Int) (e : Ending) (w' : World) : Prop :=
  ∃ A c, e = .returned (.tuple #[.agg #[.int .i64 k, .int .i64 wt, .slice A L.length c, .slice AR nR cR, .slice AM nM cM], .int .i64 E]) ∧ Rd w' w'.heap.size 5 A L.length (onesC L) ∧ Below w.heap.size w w' ∧ (A = A0 ∨ ∀ a, A = some a → w.heap.size ≤ a.block)
section
variable (k wt : Nat) (AL : Option Addr) (cL : Nat) (AR : Option Addr) (nR cR : Nat) (AM : Option Addr) (nM cM : Nat) (L : List OneV) (now player tick : Int) (x y z : Int) (w : World)
theorem refoffer_any (rd : Rd w w.heap.size 5 AL L.length (onesC L)) (hnL : L.length ≤ 100000) (hn : -1000000 ≤ now ∧ now ≤ 1000000) :
    Calls Try.prog 15 #[.agg #[.int .i64 k, .int .i64 wt, .slice AL L.length cL, .slice AR nR cR, .slice AM nM cM], .int .i64 now, .int .i64 player, .int .i64 tick, .agg #[.int .i64 x, .int .i64 y, .int .i64 z]] w (RetOffE w k wt AL AR nR cR AM nM cM (refL k nR L now player tick (x, y, z)) (refE k nR L now player tick (x, y, z))) := by
  unfold refL
  by_cases he : refE k nR L now player tick (x, y, z) = 0
  · rw [if_pos he, he]
    refine (refoffer_ok k wt AL L.length cL AR nR cR AM nM cM L now player tick x y z w rd hnL hn he).mono ?_
    rintro e w' ⟨A, c, h1, h2, h3, h4⟩
    have hl : (L ++ [(player, tick, (x, y, z))]).length = L.length + 1 := by simp
    exact ⟨A, c, by rw [hl]; exact h1, by rw [hl]; exact h2, h3, .inr h4⟩
  · rw [if_neg he]
    refine (refoffer_bad k wt AL L.length cL AR nR cR AM nM cM L now player tick x y z w rd hnL hn he).mono ?_
    rintro e w' ⟨h1, h2⟩
    exact ⟨AL, cL, h1, rd_step rd h2, h2, .inl rfl⟩
end
theorem findI_iff (L : List OneV) (P T : Int) : 0 ≤ findI L P T ↔ ∃ o ∈ L, isOne P T o := by
  rcases findI_cases L P T with ⟨h, h0⟩ | ⟨i, hi, h, h0, _⟩
  · rw [h]
    exact ⟨fun h => by omega, fun ⟨o, ho, h1⟩ => absurd h1 (h0 o ho)⟩
  · rw [h]
    exact ⟨fun _ => ⟨L[i], List.getElem_mem hi, h0⟩, fun _ => by omega⟩
/-- What is pending is what the reference accepted. -/
def LP (pd : Nat → Nat → Option Inp) (L : List OneV) : Prop := ∀ P T : Nat, (pd T P).isSome = true ↔ 0 ≤ findI L P T
theorem lp_new : LP (fun _ _ => none) [] := fun P T => by rw [findI_iff]; simp
theorem lp_E {pd : Nat → Nat → Option Inp} {L : List OneV} (h : LP pd L) (k n : Nat) (now player tick : Int) (x : Inp) : refE k n L now player tick x = offerE k n pd now player tick x := by
  unfold refE offerE
  by_cases c1 : player < 0 ∨ (k : Int) ≤ player
  · rw [if_pos c1, if_pos c1]
  rw [if_neg c1, if_neg c1]
  by_cases c2 : ¬ Val x
  · rw [if_pos c2, if_pos c2]
  rw [if_neg c2, if_neg c2]
  by_cases c3 : tick < 0 ∨ 6000 ≤ tick ∨ now + 8 < tick
  · have c3' : tick < 0 ∨ 6000 ≤ tick ∨ now < tick - 8 := by omega
    rw [if_pos c3, if_pos c3']
  have c3' : ¬ (tick < 0 ∨ 6000 ≤ tick ∨ now < tick - 8) := by omega
  rw [if_neg c3, if_neg c3']
  by_cases c4 : tick < (n : Int)
  · rw [if_pos c4, if_pos c4]
  rw [if_neg c4, if_neg c4]
  have := h player.toNat tick.toNat
  rw [show ((player.toNat : Nat) : Int) = player from by omega, show ((tick.toNat : Nat) : Int) = tick from by omega] at this
  by_cases c5 : 0 ≤ findI L player tick
  · rw [if_pos c5, if_pos (this.2 c5)]
  · rw [if_neg c5, if_neg (fun h => c5 (this.1 h))]
theorem lp_step {pd : Nat → Nat → Option Inp} {L : List OneV} (h : LP pd L) {k n : Nat} {now player tick : Int} {x : Inp} (he : offerE k n pd now player tick x = 0) : LP (offerP pd player tick x) (L ++ [(player, tick, x)]) := by
  obtain ⟨⟨a1, _⟩, _, ⟨a4, _⟩, _⟩ := offerE_in (.inl he)
  intro P T
  rw [findI_iff]
  unfold offerP
  by_cases hc : T = tick.toNat ∧ P = player.toNat
  · rw [if_pos hc]
    simp only [Option.isSome_some, true_iff]
    exact ⟨_, List.mem_append_right _ (List.mem_singleton_self _), by unfold isOne; simp only; omega⟩
  · rw [if_neg hc, h P T, findI_iff]
    constructor
    · rintro ⟨o, ho, h1⟩; exact ⟨o, List.mem_append_left _ ho, h1⟩
    · rintro ⟨o, ho, h1⟩
      rcases List.mem_append.1 ho with ho | ho
      · exact ⟨o, ho, h1⟩
      · rw [List.mem_singleton.1 ho] at h1
        unfold isOne at h1
        simp only at h1
        exact absurd (by omega) hc
theorem rd_onlyF {w w' : World} {F : Nat → Prop} {B sz n : Nat} {A : Option Addr} {xs : List Value} (h : Rd w B sz A n xs) (hB : B ≤ w.heap.size) (hO : Only F w w') (hx : ∀ a, A = some a → ¬ F a.block) : Rd w' B sz A n xs := by
  refine ⟨h.1, fun hne => ?_⟩
  obtain ⟨b, o, e, hb, hc⟩ := h.2 hne
  refine ⟨b, o, e, hb, fun j u hu => ?_⟩
  rw [World.cell?_of_block (w := w) (a := ⟨b, o + j, none⟩) (hO.heap (Nat.lt_of_lt_of_le hb hB) (fun h => hx ⟨b, o, none⟩ e h))]
  exact hc j u hu
/-- The queue and the reference's, in the box bq; the raw input in bi. -/
structure Rw (w0 w : World) (p b bq bi k nm : Nat) (ra rb rc : Int) (pd : Nat → Nat → Option Inp) (L : List OneV) (A : Option Addr) (c : Nat) : Prop where
  q : Iqu w p b none k 3 nm pd []
  V : Vr w bq 30 #[.int .i64 k, .int .i64 ((3 : Nat) : Int), .slice A L.length c, .slice none 0 0, .slice none 0 0]
  R : Rd w w.heap.size 5 A L.length (onesC L)
  n : ∀ a, A = some a → a.block ≠ bq ∧ ¬ Foot p b none a.block
  v : Vr w bi 34 #[.int .i64 ra, .int .i64 rb, .int .i64 rc]
  f1 : ¬ Foot p b none bq
  f2 : ¬ Foot p b none bi
  f3 : bi ≠ bq
  hF : ∀ j, Foot p b none j → w0.heap.size ≤ j
  hx : w0.heap.size ≤ bq
  hb : Below w0.heap.size w0 w
section
variable {w0 w w' : World} {p b bq bi k nm nm' : Nat} {ra rb rc : Int} {pd pd' : Nat → Nat → Option Inp} {L L' : List OneV} {A A' : Option Addr} {c c' : Nat}
theorem Rw.call (h : Rw w0 w p b bq bi k nm ra rb rc pd L A c) (hb : Below w.heap.size w w') : Rw w0 w' p b bq bi k nm ra rb rc pd L A c :=
  ⟨h.q.below hb, h.V.call hb, rd_step h.R hb, h.n, h.v.call hb, h.f1, h.f2, h.f3, h.hF, h.hx, b_call h.hb hb⟩
theorem Rw.move (h : Rw w0 w p b bq bi k nm ra rb rc pd L A c) (hq : Iqu w' p b none k 3 nm' pd' []) (hM : Mv w w' p b none none) : Rw w0 w' p b bq bi k nm' ra rb rc pd' L A c :=
  ⟨hq, h.V.only hM.2 h.f1, (rd_onlyF h.R (Nat.le_refl _) hM.2 fun a e => (h.n a e).2).more hM.2.size, h.n, h.v.only hM.2 h.f2, h.f1, h.f2, h.f3, h.hF, h.hx, h.hb.trans (hM.2.below h.hb.size h.hF)⟩
theorem Rw.put (h : Rw w0 w p b bq bi k nm ra rb rc pd L A c) (hO : Only (· = bq) w w') (hV : Vr w' bq 30 #[.int .i64 k, .int .i64 ((3 : Nat) : Int), .slice A' L'.length c', .slice none 0 0, .slice none 0 0]) (hR : Rd w w.heap.size 5 A' L'.length (onesC L')) (hn : ∀ a, A' = some a → a.block ≠ bq ∧ ¬ Foot p b none a.block) : Rw w0 w' p b bq bi k nm ra rb rc pd L' A' c' :=
  ⟨h.q.only hO (fun j hj e => h.f1 (e ▸ hj)), hV, (rd_onlyF hR (Nat.le_refl _) hO fun a e => (hn a e).1).more hO.size, hn, h.v.only hO h.f3, h.f1, h.f2, h.f3, h.hF, h.hx, h.hb.trans (hO.below h.hb.size (by rintro j rfl; exact h.hx))⟩
theorem Rw.fresh (h : Rw w0 w p b bq bi k nm ra rb rc pd L A c) (hA : A' = A ∨ ∀ a, A' = some a → w.heap.size ≤ a.block) : ∀ a, A' = some a → a.block ≠ bq ∧ ¬ Foot p b none a.block := by
  intro a e
  rcases hA with rfl | hA
  · exact h.n a e
  · have h1 := hA a e
    have h2 := h.V.lt
    refine ⟨by omega, fun hf => ?_⟩
    have := h.q.lt _ hf
    omega
end
end Go.Proofs.Ytdjmaljldajpiaa
