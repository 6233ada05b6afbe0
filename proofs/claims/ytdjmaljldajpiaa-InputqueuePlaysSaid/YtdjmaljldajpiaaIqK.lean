/-
  WHAT IS PROVED HERE: the contracts of package inputqueue for a queue whose blocks lie from a given one on. No condition but that the queue lies in memory as stated, and that the numbers are a machine's.
-/
import Derived.Test.YtdjmaljldajpiaaIqH2
import Derived.Test.YtdjmaljldajpiaaIqB
namespace Go.Proofs.Ytdjmaljldajpiaa
set_option linter.unusedVariables false
open Go.ChangeShapes Go.WideShapes Go.ChangeAt Go.RowKit
open Go.Maps (Keyed)

/-- The queue's rows may have moved into a new block; of old memory only the queue's own blocks have changed. -/
def Mv (w w' : World) (p b : Nat) (g g' : Option Nat) : Prop := (g' = g ∨ ∃ j, g' = some j ∧ w.heap.size ≤ j) ∧ Only (Foot p b g) w w'
section
variable {w w' w2 : World} {p b : Nat} {g g' g2 : Option Nat}
theorem Mv.refl (w : World) (p b : Nat) (g : Option Nat) : Mv w w p b g g := ⟨.inl rfl, Only.refl _ _⟩
theorem Mv.of_below (h : Below w.heap.size w w') : Mv w w' p b g g := ⟨.inl rfl, Only.of_below h _ (fun j h1 h2 => by omega)⟩
theorem Mv.trans (h : Mv w w' p b g g') (k : Mv w' w2 p b g' g2) : Mv w w2 p b g g2 := by
  refine ⟨?_, h.2.step k.2 (foot_step h.1)⟩
  rcases k.1 with rfl | ⟨j, rfl, hj⟩
  · exact h.1
  · exact .inr ⟨j, rfl, Nat.le_trans h.2.size hj⟩
theorem Mv.then (h : Mv w w' p b g g') (k : Below w'.heap.size w' w2) : Mv w w2 p b g g' := h.trans (.of_below k)
theorem Mv.size (h : Mv w w' p b g g') : w.heap.size ≤ w'.heap.size := h.2.size
/-- What lies outside the queue stays, and stays outside. -/
theorem Mv.away (h : Mv w w' p b g g') {j : Nat} (hj : j < w.heap.size) (hf : ¬ Foot p b g j) : w'.heap[j]? = w.heap[j]? ∧ ¬ Foot p b g' j := by
  refine ⟨h.2.heap hj hf, ?_⟩
  rintro (r | r | r)
  · exact hf (.inl r)
  · exact hf (.inr (.inl r))
  · rcases h.1 with rfl | ⟨i, rfl, hi⟩
    · exact hf (.inr (.inr r))
    · injection r with r
      omega
theorem Mv.belowB {B : Nat} (h : Mv w w' p b g g') (hB : B ≤ w.heap.size) (hf : ∀ j, Foot p b g j → B ≤ j) : Below B w w' ∧ ∀ j, Foot p b g' j → B ≤ j := by
  refine ⟨h.2.below hB hf, ?_⟩
  rintro j (rfl | rfl | r)
  · exact hf _ (.inl rfl)
  · exact hf _ (.inr (.inl rfl))
  · rcases h.1 with rfl | ⟨i, rfl, hi⟩
    · exact hf _ (.inr (.inr r))
    · injection r with r
      omega
end
/-- A slice that reads so, outside the queue. -/
def RdA (w : World) (p b : Nat) (g : Option Nat) (sz : Nat) (A : Option Addr) (n : Nat) (xs : List Value) : Prop := Rd w w.heap.size sz A n xs ∧ ∀ ad, A = some ad → ad.block < w.heap.size ∧ ¬ Foot p b g ad.block
/-- A slice that is owned, outside the queue. -/
def OwnA (w : World) (p b : Nat) (g : Option Nat) (base : Nat) (e : TypeId) (sz : Nat) (v : Value) (n : Nat) (xs : List Value) : Prop := w.ownsRow base e sz v n xs ∧ ∀ j, v.ownBlock = some j → ¬ Foot p b g j
section
variable {w w' : World} {p b : Nat} {g g' : Option Nat} {sz n base : Nat} {A : Option Addr} {e : TypeId} {v : Value} {xs : List Value}
theorem RdA.mv (h : RdA w p b g sz A n xs) (m : Mv w w' p b g g') : RdA w' p b g' sz A n xs := by
  refine ⟨⟨h.1.1, fun hx => ?_⟩, fun ad ha => ?_⟩
  · obtain ⟨i, o, rfl, hi, hc⟩ := h.1.2 hx
    have ha := m.away hi (h.2 _ rfl).2
    exact ⟨i, o, rfl, Nat.lt_of_lt_of_le hi m.size, fun j u hu => (World.cell?_of_block (w := w) (a := ⟨i, o + j, none⟩) ha.1).trans (hc j u hu)⟩
  · have hh := h.2 ad ha
    exact ⟨Nat.lt_of_lt_of_le hh.1 m.size, (m.away hh.1 hh.2).2⟩
theorem RdA.below (h : RdA w p b g sz A n xs) (hb : Below w.heap.size w w') : RdA w' p b g sz A n xs := h.mv (.of_below hb)
theorem OwnA.mv (h : OwnA w p b g base e sz v n xs) (m : Mv w w' p b g g') : OwnA w' p b g' base e sz v n xs :=
  ⟨own_same h.1 fun j hj => (m.away (h.1.lt j hj).2 (h.2 j hj)).1, fun j hj => (m.away (h.1.lt j hj).2 (h.2 j hj)).2⟩
theorem OwnA.below (h : OwnA w p b g base e sz v n xs) (hb : Below w.heap.size w w') : OwnA w' p b g base e sz v n xs := h.mv (.of_below hb)
theorem OwnA.nil (w : World) (p b : Nat) (g : Option Nat) (base : Nat) (e : TypeId) (sz : Nat) : OwnA w p b g base e sz (.slice none 0 0) 0 [] := ⟨own_nil _ _ _ _, fun j hj => by cases hj⟩
theorem own_blk {c : Nat} (h : w.ownsRow base e sz (.slice A n c) n xs) : ∀ ad, A = some ad → base ≤ ad.block ∧ ad.block < w.heap.size ∧ (Value.slice A n c).ownBlock = some ad.block := by
  intro ad ha
  subst ha
  rcases h.2 with ⟨he, _⟩ | ⟨i, cap, cur, he, hg, hh, _⟩
  · cases he
  · injection he with e1 e2 e3
    injection e1 with e1
    subst e1
    have : (Value.slice (some (⟨i, 0, none⟩ : Addr)) n c).ownBlock = some i := rfl
    exact ⟨hg, (h.lt i rfl).2, this⟩
theorem OwnA.rd {c : Nat} (h : OwnA w p b g base e sz (.slice A n c) n xs) : RdA w p b g sz A n xs :=
  ⟨rd_own h.1, fun ad ha => ⟨(own_blk h.1 ad ha).2.1, h.2 _ (own_blk h.1 ad ha).2.2⟩⟩
/-- A new slice lies outside the queue. -/
theorem OwnA.new {W : World} {k wt nm : Nat} {pd : PD} {rows : List RowV} (hq : Iqu W p b g k wt nm pd rows) (h : w.ownsRow W.heap.size e sz v n xs) : OwnA w p b g W.heap.size e sz v n xs :=
  ⟨h, fun j hj hf => by have := (h.lt j hj).1; have := hq.lt j hf; omega⟩
theorem OwnA.mono (h : OwnA w p b g base e sz v n xs) {base' : Nat} (hb : base' ≤ base) : OwnA w p b g base' e sz v n xs := ⟨own_mono h.1 hb, h.2⟩
/-- What came in lies outside a queue of the call's own. -/
theorem RdA.old {W : World} (h : Rd W W.heap.size sz A n xs) (hA : ∀ ad, A = some ad → ad.block < W.heap.size) (hb : Below W.heap.size W w) (hf : ∀ j, Foot p b g j → W.heap.size ≤ j) : RdA w p b g sz A n xs :=
  ⟨(h.below hb (Nat.le_refl _)).more hb.size, fun ad ha => ⟨Nat.lt_of_lt_of_le (hA ad ha) hb.size, fun hx => by have := hf _ hx; have := hA ad ha; omega⟩⟩
end
def s0 : QS := ⟨fun _ _ => none, []⟩
theorem new_q (k wt : Nat) (w : World) (hk1 : 1 ≤ k) (hk8 : k ≤ 8) (hw8 : wt ≤ 8) :
    Calls Try.prog 11 #[.int .i64 (k : Int), .int .i64 (wt : Int)] w fun e w' => ∃ p b, e = .returned (.pointer (some ⟨p, 0, none⟩)) ∧ Iqu w' p b none k wt 0 s0.1 s0.2 ∧ (∀ j, Foot p b none j → w.heap.size ≤ j) ∧ Below w.heap.size w w' :=
  (new_any k wt w hk1 hk8 hw8).mono fun e w' ⟨p, b, he, hp, hb, hI, hbl⟩ => ⟨p, b, he, hI, (by
    rintro j (rfl | rfl | h)
    · exact hp
    · exact hb
    · cases h), hbl⟩
section
variable (p b : Nat) (g : Option Nat) (k wt nm : Nat) (s : QS) (w : World)
theorem advance_q (now : Int) (s' : QS) (v : Int) (h : Iqu w p b g k wt nm s.1 s.2) (hs : adv k wt now s = s') (hv : (s'.2.length : Int) - s.2.length = v) (hn : I64 now) (hk : k ≤ 8) (hwt : wt ≤ 8) (hr : s.2.length ≤ 6000) :
    Calls Try.prog 14 #[.pointer (some ⟨p, 0, none⟩), .int .i64 now] w fun e w' => e = .returned (.int .i64 v) ∧ ∃ g', Iqu w' p b g' k wt nm s'.1 s'.2 ∧ Mv w w' p b g g' := by
  subst hs hv
  exact (advance_any p b g k wt nm now s w h hn hk hwt hr).mono fun e w' ⟨he, g', h3, h4, h5⟩ => ⟨he, g', h4, h3, h5⟩

/-- The inputs I and the marks M come back in new memory. -/
def RetFX (w : World) (k : Nat) (I : List Inp) (M : List Bool) (e : Ending) (w' : World) : Prop :=
  ∃ A c A' c', e = .returned (.tuple #[.slice A k c, .slice A' k c', .bool true]) ∧ w'.ownsRow w.heap.size 34 3 (.slice A k c) k (flat I) ∧ w'.ownsRow w.heap.size 4 1 (.slice A' k c') k (M.map Value.bool) ∧ Below w.heap.size w w'
theorem fixed_q (t : Nat) (r : RowV) (I : List Inp) (M : List Bool) (h : Iqu w p b g k wt nm s.1 s.2) (ht : s.2[t]? = some r) (hI : firstI k r = I) (hM : firstB k r = M) (hk : k ≤ 8) (hr : s.2.length ≤ 6000) :
    Calls Try.prog 21 #[.pointer (some ⟨p, 0, none⟩), .int .i64 (t : Int)] w (RetFX w k I M) := by
  subst hI hM
  obtain ⟨hl, rfl⟩ := List.getElem?_eq_some_iff.1 ht
  exact (fixed_yes p b g k wt nm s.1 s.2 t w h hk hl (by omega)).mono fun e w' ⟨A, c, A', c', he, o1, o2, _, _, _, _, hb⟩ => ⟨A, c, A', c', he, o1, o2, hb⟩

/-- What Offer makes of the state. -/
def offS (k : Nat) (now player tick : Int) (x : Inp) (s : QS) : QS := if offerE k s.2.length s.1 now player tick x = 0 then ⟨offerP s.1 player tick x, s.2⟩ else s
theorem offS_rows (k : Nat) (now player tick : Int) (x : Inp) (s : QS) : (offS k now player tick x s).2 = s.2 := by
  unfold offS
  split <;> rfl
theorem offerE_in {k n : Nat} {pd : PD} {now player tick : Int} {x : Inp} (h : offerE k n pd now player tick x = 0 ∨ offerE k n pd now player tick x = 4) :
    (0 ≤ player ∧ player < k) ∧ Val x ∧ (0 ≤ tick ∧ tick < 6000) ∧ tick - 8 ≤ now ∧ (n : Int) ≤ tick ∧ ((pd tick.toNat player.toNat).isSome = true ↔ offerE k n pd now player tick x = 4) := by
  by_cases c1 : player < 0 ∨ (k : Int) ≤ player
  · have : offerE k n pd now player tick x = 17 := by unfold offerE; rw [if_pos c1]
    omega
  by_cases c2 : Val x
  · by_cases c3 : tick < 0 ∨ 6000 ≤ tick ∨ now < tick - 8
    · have : offerE k n pd now player tick x = 18 := by unfold offerE; rw [if_neg c1, if_neg (by simpa using c2), if_pos c3]
      omega
    · by_cases c4 : tick < (n : Int)
      · have : offerE k n pd now player tick x = 20 := by unfold offerE; rw [if_neg c1, if_neg (by simpa using c2), if_neg c3, if_pos c4]
        omega
      · refine ⟨by omega, c2, by omega, by omega, by omega, ?_⟩
        unfold offerE
        rw [if_neg c1, if_neg (by simpa using c2), if_neg c3, if_neg c4]
        by_cases c5 : (pd tick.toNat player.toNat).isSome = true
        · rw [if_pos c5]; simp [c5]
        · rw [if_neg c5]; simp [c5]
  · have : offerE k n pd now player tick x = 1 := by unfold offerE; rw [if_neg c1, if_pos c2]
    omega
theorem offer_q (now player tick x y z : Int) (s' : QS) (v : Int) (h : Iqu w p b g k wt nm s.1 s.2) (hs : offS k now player tick (x, y, z) s = s') (hv : offerE k s.2.length s.1 now player tick (x, y, z) = v) (hn : I64 now) (hp : I64 player) (ht : I64 tick) (hk : k ≤ 8) (hr : s.2.length ≤ 6000) (hnm : nm ≤ 1000000) :
    Calls Try.prog 16 #[.pointer (some ⟨p, 0, none⟩), .int .i64 now, .int .i64 player, .int .i64 tick, .agg #[.int .i64 x, .int .i64 y, .int .i64 z]] w fun e w' => e = .returned (.int .i64 v) ∧ Iqu w' p b g k wt (nm + 1) s'.1 s'.2 ∧ Mv w w' p b g g := by
  subst hs hv
  have more : ∀ {w' : World}, Iqu w' p b g k wt nm s.1 s.2 → Iqu w' p b g k wt (nm + 1) s.1 s.2 := fun ⟨A, c, F, h1, h2, h3, h4, h5, h6⟩ => ⟨A, c, F, h1, h2, h3, h4, h5.mono (by omega), h6⟩
  by_cases c0 : offerE k s.2.length s.1 now player tick (x, y, z) = 0
  · obtain ⟨⟨a1, a2⟩, a3, ⟨a4, a5⟩, a6, a7, a8⟩ := offerE_in (.inl c0)
    obtain ⟨P, rfl⟩ := Int.eq_ofNat_of_zero_le a1
    obtain ⟨T, rfl⟩ := Int.eq_ofNat_of_zero_le a4
    rw [show offS k now P T (x, y, z) s = ⟨offerP s.1 P T (x, y, z), s.2⟩ from if_pos c0, c0]
    have hd : s.1 T P = none := by
      rcases hs : s.1 T P with _ | v
      · rfl
      · have := a8.1 (by simp [hs])
        omega
    exact (offer_ok p b g k wt nm s.1 s.2 now P T x y z w h hn (by omega) hk (by omega) a6 (by omega) a3 hd hnm).mono fun e w' ⟨he, hI, ho⟩ => ⟨he, hI, .inl rfl, ho.mono fun j _ hj => .inr (.inl hj)⟩
  · rw [show offS k now player tick (x, y, z) s = s from if_neg c0]
    by_cases c4 : offerE k s.2.length s.1 now player tick (x, y, z) = 4
    · obtain ⟨⟨a1, a2⟩, a3, ⟨a4, a5⟩, a6, a7, a8⟩ := offerE_in (.inr c4)
      obtain ⟨P, rfl⟩ := Int.eq_ofNat_of_zero_le a1
      obtain ⟨T, rfl⟩ := Int.eq_ofNat_of_zero_le a4
      rw [c4]
      have hd : (s.1 T P).isSome = true := by simpa using a8.2 c4
      exact (offer_dup p b g k wt nm s.1 s.2 now P T x y z w h hn (by omega) hk (by omega) a6 (by omega) a3 hd).mono fun e w' ⟨he, hb⟩ => ⟨he, more (h.below hb), .of_below hb⟩
    · exact (offer_bad p b g k wt nm s.1 s.2 now player tick x y z w h hn hp ht (by omega) c4 c0).mono fun e w' ⟨he, hb⟩ => ⟨he, more (h.below hb), .of_below hb⟩
end
end Go.Proofs.Ytdjmaljldajpiaa
