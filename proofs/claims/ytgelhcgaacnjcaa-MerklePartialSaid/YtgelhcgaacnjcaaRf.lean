/-
  WHAT IS PROVED HERE: for loops over a function: a region that draws its order inside a round; what a loop's body keeps; over any program. No condition beyond what each theorem states.
-/
import Derived.RangeFuncNested
import Derived.RangeFuncBound
import Derived.RangeFuncCalls
import Derived.RangeFuncLeaves
import Derived.Shelf.Abstract
import Derived.Shelf.RegionOpen
import Derived.WalkKit
import Derived.OwnWalkIn
import Derived.TacticsInMore
import Derived.LoopNIn
import Derived.LoopIn
import Derived.Test.YtgelhcgaacnjcaaAny
namespace Go.Proofs.Ytgelhcgaacnjcaa
set_option linter.unusedVariables false
open Go.RowKit Go.Shelf

/-! ### A region that draws its order, inside a round -/
/-- It ends in the ordinary way. -/
def onlyN (Q : Exit → Go.Act → World → Prop) : Exit → Go.Act → World → Prop
  | .normal, a, w => Q .normal a w
  | _, _, _ => False
theorem onlyN_mk {Q : Exit → Go.Act → World → Prop} {a : Go.Act} {w : World} (h : Q .normal a w) : onlyN Q .normal a w := h
theorem onlyN_letsOut {Q : Exit → Go.Act → World → Prop} (h : LetsOut (onlyN Q)) : False := by
  obtain ⟨a, w, h⟩ := h
  exact h
def noDeferB (ops : Array Oper) : Bool := ops.toList.all fun o => match o.op with
  | .defer _ => false
  | _ => true
theorem noDefer_of {ops : Array Oper} (h : noDeferB ops = true) {i : Nat} {o : Oper} (ho : ops[i]? = some o) : ∀ c, o.op ≠ .defer c := by
  intro c hc
  have := List.all_eq_true.1 h o (Array.mem_toList_iff.2 (Array.mem_of_getElem? ho))
  rw [hc] at this
  cases this
section
variable {P : Program} {md : Region.Mode} {ops : Array Oper} {Q : Exit → Go.Act → World → Prop} {l n : Nat}
theorem rowsIn_wide {row : String} {args : Array Value} {w : World} {R : Value → World → Prop} (h : Rows P row args w R) : RowsIn (Fence.wide.inRound l) n P row args w R :=
  fun c cs _ => let ⟨v, w', r, s⟩ := h c cs; ⟨v, w', r, stepsIn_wide.2 s⟩
theorem operIn_of {o : Oper} (hd : ∀ c, o.op ≠ .defer c) {a : Go.Act} {w : World} {K : Go.Act → World → Prop} (h : o.wp P a w K (onlyN Q)) : o.wpIn (Fence.wide.inRound l) n P a w K Q := by
  unfold Oper.wpIn
  refine ⟨fun f _ => trivial, ?_⟩
  have e : o.semAt (Fence.wide.inRound l).round a.eval = execOp a.eval o := Oper.semAt_some l _ _ hd
  rw [e]
  unfold Oper.wp at h
  have hdep : (Fence.wide.inRound l).depth.isSome = true → 1 ≤ n := fun h => by simp [Fence.wide] at h
  generalize (execOp a.eval o).run P w = r at *
  cases r with
  | ok x w' =>
    cases x with
    | value v => exact h
    | skip => exact h
    | defer d => exact h
    | enter f args =>
      refine ⟨hdep, (CallsIn.inRound l (callsIn_wide.2 h)).mono fun e w'' he => ?_⟩
      cases e with
      | returned v => exact he
      | panicked c => exact he.elim
      | outgrown => exact (onlyN_letsOut he).elim
    | row row args => exact ⟨hdep, rowsIn_wide h⟩
    | _ => exact h.elim
  | halt x w' => cases x <;> exact h.elim
theorem wpOpIn_of (hd : noDeferB ops = true) {i : Nat} {K : Go.Act → World → Prop} {a : Go.Act} {w : World} (h : wpOp P ops (onlyN Q) i K a w) : wpOpIn (Fence.wide.inRound l) n P ops Q i K a w := by
  unfold wpOp at h
  unfold wpOpIn
  cases ho : ops[i]? with
  | none => rw [ho] at h; exact h
  | some o =>
    rw [ho] at h
    simp only at h ⊢
    split
    · rename_i hw
      rw [if_pos hw] at h
      rcases h with h | h
      · exact operIn_of (noDefer_of hd ho) h
      · exact (onlyN_letsOut h.2).elim
    · rename_i hw
      rw [if_neg hw] at h
      exact ⟨fun f _ => trivial, h⟩
theorem wpAnyIn_of (hd : noDeferB ops = true) : ∀ (fuel : Nat) (listed : Array Bool) (a : Go.Act) (w : World), wpAny P md ops (onlyN Q) fuel listed a w → wpAnyIn (Fence.wide.inRound l) n P md ops Q fuel listed a w
  | 0, listed, a, w, h => h
  | fuel + 1, listed, a, w, h => ⟨h.1, fun i hi => Go.wpOpIn_mono (fun a' w' h' => wpAnyIn_of hd fuel _ a' w' h') (wpOpIn_of hd (h.2 i hi))⟩
/-- A region inside a round, walked as outside. -/
theorem region_in {id : Nat} {a : Go.Act} {w : World} (hm : P.follows .mixedOrders = true) (hd : noDeferB ops = true)
    (h : wpAny P .any ops (onlyN Q) ops.size (Array.replicate ops.size false) a w.drew) : (Code.region id ops true).wpIn (Fence.wide.inRound l) n P Q a w :=
  wpIn_region_any hm (wpAnyIn_of hd _ _ _ _ h)
end

/-! ### What a loop's body keeps -/
/-- The two boxes of the iterator lie as they lay. -/
def Kp2 (b1 b2 : Nat) (W W' : World) : Prop := W'.heap[b1]? = W.heap[b1]? ∧ W'.heap[b2]? = W.heap[b2]?
theorem Kp2.refl (b1 b2 : Nat) (W : World) : Kp2 b1 b2 W W := ⟨rfl, rfl⟩
theorem kp2_t {b1 b2 : Nat} {A B C : World} (h : Kp2 b1 b2 A B) (k : Kp2 b1 b2 B C) : Kp2 b1 b2 A C := ⟨k.1.trans h.1, k.2.trans h.2⟩
theorem kp2_b {b1 b2 : Nat} {w : World} (h1 : b1 < w.heap.size) (h2 : b2 < w.heap.size) (W : World) (l : Nat) (o o' : Obj) (hl : w.heap.size ≤ l) (h : W.heap[l]? = some o) (_ : o.isCells = false) (_ : o.isWalk = false) : Kp2 b1 b2 W (W.putObj l o') :=
  ⟨World.putObj_heap_other (by omega), World.putObj_heap_other (by omega)⟩
theorem Kp2.of_only {b1 b2 : Nat} {F : Nat → Prop} {W W' : World} (h : Only F W W') (h1 : b1 < W.heap.size) (h2 : b2 < W.heap.size) (n1 : ¬ F b1) (n2 : ¬ F b2) : Kp2 b1 b2 W W' := ⟨h.heap h1 n1, h.heap h2 n2⟩
theorem keepsFrom_only {B : Nat} {F : Nat → Prop} {W W' : World} (h : Only F W W') (hF : ∀ k, F k → k < B) : KeepsFrom B W W' :=
  ⟨h.size, fun k o hB hk _ => (h.heap (Array.getElem?_eq_some_iff.1 hk).1 (fun hf => by have := hF k hf; omega)).trans hk⟩
theorem ownFrom_vr {β : Type} (B b : Nat) (t : TypeId) (f : β → Array Value) : OwnFrom B (fun s W => Vr W b t (f s)) := by
  intro s W W' row hs hg hr
  refine hs.grown hg fun e => ?_
  obtain ⟨_, o, ho, hc⟩ := hr b e.symm
  unfold Vr at hs
  rw [hs] at ho
  cases ho
  cases hc
theorem ownFrom_only {β : Type} {B : Nat} {F : Nat → Prop} {w0 : World} (hB : w0.heap.size ≤ B) : OwnFrom B (fun (_ : β) W => Only F w0 W) :=
  fun s W W' row hs hg hr => hs.grown hg fun k e => .inr (by have := (hr k e).1; omega)
theorem only_putObj {F : Nat → Prop} {a w w' : World} (h : Only F a w) {l : Nat} (hl : a.heap.size ≤ l) {o' : Obj} (he : w' = w.putObj l o') : Only F a w' := by
  subst he
  exact h.grown (grownBy_putObj' w l o') (fun k e => by cases e; exact .inr hl)
theorem vr_putObj {w : World} {b : Nat} {t : TypeId} {cs : Array Value} (h : Vr w b t cs) {l : Nat} {o : Obj} (hb : b ≠ l) : Vr (w.putObj l o) b t cs := h.same (World.putObj_heap_other hb)
theorem o_drew {g : Nat} {a w : World} (h : Only (· = g) a w) : Only (· = g) a w.drew := h.drew
theorem o_drewN {g : Nat} {a w : World} (h : Only (· = g) a w) (n : Nat) : Only (· = g) a (w.drewN n) := h.drewN n
theorem o_alloc {g : Nat} {a w : World} (h : Only (· = g) a w) (o : Obj) : Only (· = g) a (w.alloc o) := h.alloc o
theorem o_call {g : Nat} {a b c : World} (h : Only (· = g) a b) (k : Only (· = g) b c) : Only (· = g) a c := h.trans k
theorem of_below {F : Nat → Prop} {a b c : World} (h : Only F a b) (k : Below b.heap.size b c) : Only F a c := h.trans (Only.of_below k _ (fun j h1 h2 => by omega))
theorem o_below {g : Nat} {a b c : World} (h : Only (· = g) a b) (k : Below b.heap.size b c) : Only (· = g) a c := of_below h k
theorem o_set {g : Nat} {a w : World} (h : Only (· = g) a w) (i : Nat) (u : Value) : Only (· = g) a (w.setCell ⟨g, i, none⟩ u) := h.setCell (p := ⟨g, i, none⟩) (.inl rfl) u
theorem only_cell {F : Nat → Prop} {a w : World} (h : Only F a w) {b o : Nat} {v : Value} (hc : a.cell? ⟨b, o, none⟩ = some v) (hn : ¬ F b) : w.cell? ⟨b, o, none⟩ = some v :=
  (World.cell?_of_block (w := a) (a := ⟨b, o, none⟩) (h.heap (World.block_lt_of_cell? a _ hc) hn)).trans hc
theorem ownFrom_ax {β : Type} {B : Nat} {p : Nat → Prop} {t : TypeId} {f : Nat → Array Value} : OwnFrom B (fun (_ : β) W => ∃ g, p g ∧ Vr W g t (f g)) := by
  rintro s W W' row ⟨g, hp, hv⟩ hg hr
  exact ⟨g, hp, ownFrom_vr B g t (fun (_ : Unit) => f g) () W W' row hv hg hr⟩
theorem name_in {F : Fence} {n : Nat} {P : Program} {c : Code} {Q : Exit → Go.Act → World → Prop} {a : Go.Act} {W : World} (h : ∀ X, X = W → c.wpIn F n P Q a X) : c.wpIn F n P Q a W := h W rfl
theorem vr_new1 (w : World) (T : TypeId) (cs : Array Value) : Vr (w.alloc (.cells cs T)) w.heap.size T cs := Vr.new w T cs
theorem vr_new2 (w : World) (o1 : Obj) (T : TypeId) (cs : Array Value) : Vr ((w.alloc o1).alloc (.cells cs T)) (w.heap.size + 1) T cs := by simpa using Vr.new (w.alloc o1) T cs
theorem vr_new3 (w : World) (o1 o2 : Obj) (T : TypeId) (cs : Array Value) : Vr (((w.alloc o1).alloc o2).alloc (.cells cs T)) (w.heap.size + 1 + 1) T cs := by simpa using Vr.new ((w.alloc o1).alloc o2) T cs
theorem vr_new4 (w : World) (o1 o2 o3 : Obj) (T : TypeId) (cs : Array Value) : Vr ((((w.alloc o1).alloc o2).alloc o3).alloc (.cells cs T)) (w.heap.size + 1 + 1 + 1) T cs := by simpa using Vr.new (((w.alloc o1).alloc o2).alloc o3) T cs
theorem vr_new5 (w : World) (o1 o2 o3 o4 : Obj) (T : TypeId) (cs : Array Value) : Vr (((((w.alloc o1).alloc o2).alloc o3).alloc o4).alloc (.cells cs T)) (w.heap.size + 1 + 1 + 1 + 1) T cs := by simpa using Vr.new ((((w.alloc o1).alloc o2).alloc o3).alloc o4) T cs
theorem vr_new6 (w : World) (o1 o2 o3 o4 o5 : Obj) (T : TypeId) (cs : Array Value) : Vr ((((((w.alloc o1).alloc o2).alloc o3).alloc o4).alloc o5).alloc (.cells cs T)) (w.heap.size + 1 + 1 + 1 + 1 + 1) T cs := by simpa using Vr.new (((((w.alloc o1).alloc o2).alloc o3).alloc o4).alloc o5) T cs
theorem zip_one (t : Array Value) (pt : Nat) (x : Value) : (#[pt].zip #[x]).foldl (fun t (p, v) => t.setIfInBounds p v) t = t.setIfInBounds pt x := by simp
/-- A loop over an iterator of which each place is put into a box of its own. -/
theorem wp_rf {α : Type} {P : Program} {g : Operand} {pt sl : Nat} {T : TypeId} {assign body : Code} {Q : Exit → Go.Act → World → Prop} {a : Go.Act} {w : World} {gf : Nat} {lb : Array Value} {b1 b2 N : Nat} {S : List α → Prop} {v : α → Value}
    (hg : a.eval g = .func (.func gf) #[] lb) (eg : ∀ args w, (callFunc gf args).run P w = .ok (.enter gf args) w) (hseq : SeqStopsK Fence.wide 2 P gf lb (fun x => #[v x]) (Kp2 b1 b2) S (fun _ => True) N w) (h1 : b1 < w.heap.size) (h2 : b2 < w.heap.size)
    (I : List α → World → Prop) (hI : OwnFrom w.heap.size I) (h0 : I [] w) (hIs : ∀ pre W, I pre W → w.heap.size ≤ W.heap.size) (cs : α → Array Value)
    (hassign : ∀ (l : Nat) (x : α) (W : World) (K : Go.Act → World → Prop), K { tmps := (a.tmps.setIfInBounds pt (v x)).setIfInBounds sl (.pointer (some ⟨W.heap.size, 0, none⟩)), defers := [] } (W.alloc (.cells (cs x) T)) →
      assign.wpIn (Fence.wide.inRound l) 1 P (Exit.then K (fun _ _ _ => False)) { tmps := a.tmps.setIfInBounds pt (v x), defers := [] } W)
    (hbody : ∀ (l : Nat) (pre : List α) (x : α) (g : Nat) (W : World), w.heap.size ≤ g → I pre W → Vr W g T (cs x) → pre.length < N →
      body.wpIn (Fence.wide.inRound l) 1 P (ownPostG w.heap.size (Kp2 b1 b2) I (fun _ _ _ => False) (pre ++ [x]) W) { tmps := (a.tmps.setIfInBounds pt (v x)).setIfInBounds sl (.pointer (some ⟨g, 0, none⟩)), defers := [] } W)
    (hdone : ∀ (D : Nat) (xs : List α) (W : World), w.heap.size ≤ D → S xs → I xs W → W.heap[D]? = some (.deferred (some [])) → Q .normal { a with defers := { target := .collected D, args := #[] } :: a.defers } W) :
    (Code.rangeFunc g #[pt] assign body).wpIn Fence.wide 3 P Q a w := by
  refine wpIn_rangeFunc_ownH (F := Fence.wide) (n := 3) rfl (by omega) (gf := gf) (lb := lb) hg trivial eg hseq kp2_t (kp2_b h1 h2) (Below.refl _ _) (fun _ => rfl) I (fun _ _ _ => False) hI (fun _ _ _ _ _ h _ _ => h) h0
    (fun x a' W => ∃ g, (a' = { tmps := (a.tmps.setIfInBounds pt (v x)).setIfInBounds sl (.pointer (some ⟨g, 0, none⟩)), defers := [] } ∧ w.heap.size ≤ g) ∧ Vr W g T (cs x)) (fun x a' => ownFrom_ax (p := fun g => a' = { tmps := (a.tmps.setIfInBounds pt (v x)).setIfInBounds sl (.pointer (some ⟨g, 0, none⟩)), defers := [] } ∧ w.heap.size ≤ g) (f := fun _ => cs x)) ?_ ?_ hdone (fun _ _ _ _ _ _ h _ => h.elim)
  · intro l pre x W K hi hK
    rw [zip_one]
    refine hassign l x W K (hK _ _ ((KeepsOthers.alloc W _).from _) ⟨Below.heap_alloc W _ b1 (by have := hIs _ _ hi; omega), Below.heap_alloc W _ b2 (by have := hIs _ _ hi; omega)⟩ (hI.alloc _ hi) ⟨_, ⟨rfl, hIs _ _ hi⟩, Vr.new W _ _⟩)
  · rintro l pre x a' W _ _ hi ⟨g, ⟨rfl, hgw⟩, hv⟩ hlen
    exact hbody l pre x g W hgw hi hv hlen
end Go.Proofs.Ytgelhcgaacnjcaa
