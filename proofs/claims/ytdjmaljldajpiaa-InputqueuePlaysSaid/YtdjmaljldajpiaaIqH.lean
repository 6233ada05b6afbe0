/-
  WHAT IS PROVED HERE: what package inputqueue's Advance makes of a queue, as a function; and its contract. No condition but that the queue lies in memory as stated.
-/
import Derived.Test.YtdjmaljldajpiaaIqG3
import Derived.Deep.RegionWith
namespace Go.Proofs.Ytdjmaljldajpiaa
set_option linter.unusedVariables false
open Go.ChangeShapes Go.WideShapes Go.ChangeAt Go.RowKit
open Go.Maps (Keyed)

abbrev PD := Nat → Nat → Option Inp
/-- The state of a queue: what is pending, and the fixed rows. -/
abbrev QS := PD × List RowV
def dueB (k wt : Nat) (now : Int) (s : QS) : Bool := compB k s.1 s.2.length || decide ((s.2.length : Int) + wt ≤ now)
def stepQ (k : Nat) (s : QS) : QS := (dropP s.1 s.2.length, s.2 ++ [fixRow k (lastRow s.2) (s.1 s.2.length)])
theorem stepQ_len (k : Nat) (s : QS) : (stepQ k s).2.length = s.2.length + 1 := by simp [stepQ]
def advN (k wt : Nat) (now : Int) : Nat → QS → QS
  | 0, s => s
  | f + 1, s => if dueB k wt now s = true then advN k wt now f (stepQ k s) else s
/-- Advance. -/
def adv (k wt : Nat) (now : Int) (s : QS) : QS := advN k wt now (6000 - s.2.length) s
theorem adv_step {k wt : Nat} {now : Int} {s : QS} (h : s.2.length < 6000) (hd : dueB k wt now s = true) : adv k wt now s = adv k wt now (stepQ k s) := by
  unfold adv
  rw [stepQ_len, show 6000 - s.2.length = (6000 - (s.2.length + 1)) + 1 from by omega, advN, if_pos hd]
theorem adv_stop {k wt : Nat} {now : Int} {s : QS} (hd : dueB k wt now s = false) : adv k wt now s = s := by
  unfold adv
  rcases 6000 - s.2.length with _ | f
  · rfl
  · rw [advN, if_neg (by rw [hd]; decide)]
theorem adv_full {k wt : Nat} {now : Int} {s : QS} (h : 6000 ≤ s.2.length) : adv k wt now s = s := by
  unfold adv
  rw [show 6000 - s.2.length = 0 from by omega]
  rfl
/-- Whatever holds of a state and of each step holds behind Advance. -/
theorem adv_induct {k wt : Nat} {now : Int} {R : QS → Prop} (hR : ∀ s, R s → s.2.length < 6000 → dueB k wt now s = true → R (stepQ k s)) : ∀ s, R s → R (adv k wt now s) := by
  intro s hs
  obtain ⟨m, hm⟩ : ∃ m, 6000 - s.2.length = m := ⟨_, rfl⟩
  induction m generalizing s with
  | zero => rw [adv_full (by omega)]; exact hs
  | succ m ih =>
    rcases hd : dueB k wt now s with _ | _
    · rw [adv_stop hd]; exact hs
    · rw [adv_step (by omega) hd]
      exact ih _ (hR s hs (by omega) hd) (by rw [stepQ_len]; omega)
theorem adv_len {k wt : Nat} {now : Int} (s : QS) (h : s.2.length ≤ 6000) : s.2.length ≤ (adv k wt now s).2.length ∧ (adv k wt now s).2.length ≤ 6000 :=
  adv_induct (R := fun u => s.2.length ≤ u.2.length ∧ u.2.length ≤ 6000) (fun u hu h1 _ => by rw [stepQ_len]; omega) s ⟨Nat.le_refl _, h⟩

def lenAt (w : World) (p : Nat) : Nat := match w.cell? ⟨p, 3, none⟩ with
  | some (.slice _ n _) => n
  | _ => 0
theorem Iqu.lenAt {w : World} {p b : Nat} {g : Option Nat} {k wt nm : Nat} {pd : PD} {rows : List RowV} (h : Iqu w p b g k wt nm pd rows) : lenAt w p = rows.length := by
  obtain ⟨A, c, h0, h1, h2, h3, _⟩ := h.cells
  unfold Go.Proofs.Ytdjmaljldajpiaa.lenAt
  rw [h3]
theorem complete_is (p b : Nat) (g : Option Nat) (k wt nm : Nat) (pd : Nat → Nat → Option Inp) (rows : List RowV) (w : World) (q : Bool) (hq : compB k pd rows.length = q) (h : Iqu w p b g k wt nm pd rows) (hk : k ≤ 8) (hr : rows.length ≤ 6000) :
    Calls Try.prog 29 #[.pointer (some ⟨p, 0, none⟩)] w fun e w' => e = .returned (.bool q) ∧ Below w.heap.size w w' := by
  subst hq
  exact complete_any p b g k wt nm pd rows w h hk hr

/-- A queue of a call's: where it lies, and that of old memory only its own blocks have changed. -/
def QAt (w wr : World) (p b : Nat) (g : Option Nat) (k wt nm : Nat) (s : QS) : Prop :=
  ∃ g', (g' = g ∨ ∃ j, g' = some j ∧ w.heap.size ≤ j) ∧ Iqu wr p b g' k wt nm s.1 s.2 ∧ Only (Foot p b g) w wr
/-- What Advance makes of a queue. -/
def RetAdv (w : World) (p b : Nat) (g : Option Nat) (k wt nm : Nat) (now : Int) (s : QS) (e : Ending) (w' : World) : Prop :=
  e = .returned (.int .i64 (((adv k wt now s).2.length : Int) - s.2.length)) ∧ QAt w w' p b g k wt nm (adv k wt now s)
section
variable {w wr w' : World} {p b : Nat} {g : Option Nat} {k wt nm : Nat} {s : QS}
theorem QAt.start (h : Iqu w p b g k wt nm s.1 s.2) : QAt w w p b g k wt nm s := ⟨g, .inl rfl, h, Only.refl _ _⟩
theorem QAt.lenAt (h : QAt w wr p b g k wt nm s) : lenAt wr p = s.2.length := by
  obtain ⟨g', _, h2, _⟩ := h
  exact h2.lenAt
theorem QAt.below (h : QAt w wr p b g k wt nm s) (hb : Below wr.heap.size wr w') : QAt w w' p b g k wt nm s := by
  obtain ⟨g', h1, h2, h3⟩ := h
  exact ⟨g', h1, h2.below hb, h3.step (Only.of_below hb (fun j => wr.heap.size ≤ j) (fun j h _ => h)) (fun i hi h => by have := h3.size; omega)⟩
theorem foot_step {g' : Option Nat} (h1 : g' = g ∨ ∃ j, g' = some j ∧ w.heap.size ≤ j) : ∀ i, i < w.heap.size → Foot p b g' i → Foot p b g i := by
  intro i hi hf
  rcases hf with h | h | h
  · exact .inl h
  · exact .inr (.inl h)
  · rcases h1 with rfl | ⟨j, rfl, hj⟩
    · exact .inr (.inr h)
    · injection h with h
      omega
theorem QAt.fix {e : Ending} {g' : Option Nat} (h1 : g' = g ∨ ∃ j, g' = some j ∧ w.heap.size ≤ j) (h3 : Only (Foot p b g) w wr) (hf : RetFix wr p b g' k wt nm s.1 s.2 e w') : QAt w w' p b g k wt nm (stepQ k s) := by
  obtain ⟨g2, _, h4, h5, h6⟩ := hf
  refine ⟨g2, ?_, h5, h3.step h6 (foot_step h1)⟩
  rcases h4 with rfl | ⟨j, rfl, hj⟩
  · exact h1
  · exact .inr ⟨j, rfl, Nat.le_trans h3.size hj⟩
end
end Go.Proofs.Ytdjmaljldajpiaa
