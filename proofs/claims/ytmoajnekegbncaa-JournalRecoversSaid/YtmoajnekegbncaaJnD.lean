/-
  WHAT IS PROVED HERE: how a log lies in memory, and what one append to its bytes or its spans does to it. No condition beyond what each theorem states.
-/
import Derived.Test.YtmoajnekegbncaaJnC
import Derived.Test.YtmoajnekegbncaaAny2
namespace Go.Proofs.Ytmoajnekegbncaa
set_option linter.unusedVariables false
open Go.ChangeShapes Go.WideShapes Go.ChangeAt Go.RowKit

theorem slSpans : SlT Try.prog 49 58 2 16 := .mk' (z := .agg #[.int .i64 0, .int .i64 0]) Try.underlying49 (by kernel_rfl) rfl (by omega)
/-- append as one step of a region that draws its order, its slot given. -/
theorem step_app2 {P : Program} (w : World) {ops : Array Oper} {o : Oper} {a : Act} {K : Act → World → Prop} {Q : Exit → Act → World → Prop} {E : Prop} (dst : Tmp) (hdst : o.dst = some dst) (hgd : o.guard = none) (s x : Operand) {t e : TypeId} {size bytes : Nat} (T : SlT P t e size bytes)
    (ho : o.op = .call { callee := .builtin .append, args := #[s, x], argTypes := #[t, t] }) {base : Nat} {v : Value} {n : Nat} {xs : List Value} (hs : a.eval s = v) (hown : w.ownsRow base e size v n xs)
    {B : Nat} {A : Option Addr} {m c : Nat} {news : List Value} (hx : a.eval x = .slice A m c) (hr : Rd w B size A m news) (h1 : ∀ u ∈ news, u.oneCell' = true)
    (N : Nat) (hN : n + m = N) (h63 : N ≤ maxLen) (hbytes : N * bytes ≤ 140737488355328) (hbase : base ≤ w.heap.size)
    (h : ∀ A' c' w', N ≤ c' → c' ≤ maxLen → w'.ownsRow base e size (.slice A' N c') N (xs ++ news) → w.grownBy w' v.ownBlock → ((Value.slice A' N c').ownBlock = v.ownBlock ∨ (Value.slice A' N c').ownBlock = some w.heap.size) → K (a.put (some dst) (.slice A' N c')) w') :
    if Region.wanted o (yielded ops a.tmps) = true then Oper.wp P o a w K Q else E := by
  refine step_app w hgd s x T ho hs hown hx hr h1 N hN h63 hbytes hbase ?_
  rw [hdst]
  exact h
theorem step_build2 {P : Program} {ops : Array Oper} {o : Oper} {a : Act} {w : World} {K : Act → World → Prop} {Q : Exit → Act → World → Prop} {E : Prop} (dst : Tmp) (hdst : o.dst = some dst) (hgd : o.guard = none) (x : Operand) {t e : TypeId} {size bytes : Nat} (T : SlT P t e size bytes) (ho : o.op = .buildSlice t 1 #[(0, x)]) (hs : size ≤ 1000000) (cs : Array Value) (hx : a.eval x = .agg cs) (hc : cs.size = size)
    (h : K (a.put (some dst) (.slice (some ⟨w.heap.size, 0, none⟩) 1 1)) (w.alloc (.cells cs e))) : if Region.wanted o (yielded ops a.tmps) = true then Oper.wp P o a w K Q else E := by
  refine step_build1 hgd x T ho hs cs hx hc ?_
  rw [hdst]
  exact h
/-- A log at g: its bytes D, its spans' cells S (m spans); all in blocks of F. -/
structure LqX (w : World) (F : Nat → Prop) (g : Nat) (D : List Int) (S : List Value) (m : Nat) (n : Nat) (A : Option Addr) (c : Nat) (B : Option Addr) (d : Nat) : Prop where
  hn : D.length = n
  V : Vr w g 51 #[.slice A n c, .slice B m d]
  hc : n ≤ c
  hcm : c ≤ maxLen
  own : w.ownsRow 0 5 1 (.slice A n c) n (D.map (Value.int .u8))
  hd : m ≤ d
  hdm : d ≤ maxLen
  sp : w.ownsRow 0 58 2 (.slice B m d) m S
  fg : F g
  fa : ∀ k, (Value.slice A n c).ownBlock = some k → F k ∧ k ≠ g
  fb : ∀ k, (Value.slice B m d).ownBlock = some k → F k ∧ k ≠ g
  ab : ∀ k, (Value.slice A n c).ownBlock = some k → (Value.slice B m d).ownBlock ≠ some k
  lt : ∀ k, F k → k < w.heap.size
/-- a step of a log: what it changes is F, and what it takes besides is new -/
def Mv (w w' : World) (F F' : Nat → Prop) : Prop := (∀ k, F' k → F k ∨ w.heap.size ≤ k) ∧ Only F w w'
theorem Mv.refl (w : World) (F : Nat → Prop) : Mv w w F F := ⟨fun _ h => .inl h, Only.refl _ _⟩
theorem Mv.of_below {w w' : World} {F : Nat → Prop} (h : Below w.heap.size w w') : Mv w w' F F := ⟨fun _ h => .inl h, Only.of_below h _ (fun k h1 h2 => by omega)⟩
theorem Mv.trans {a b c : World} {F G H : Nat → Prop} (h : Mv a b F G) (k : Mv b c G H) : Mv a c F H :=
  ⟨fun i hi => (k.1 i hi).elim (h.1 i) (fun h2 => .inr (Nat.le_trans h.2.size h2)), h.2.step k.2 (fun i hi hg => (h.1 i hg).elim id (fun h2 => by omega))⟩
theorem Mv.size {w w' : World} {F F' : Nat → Prop} (h : Mv w w' F F') : w.heap.size ≤ w'.heap.size := h.2.size
theorem Mv.drew {w w' : World} {F F' : Nat → Prop} (h : Mv w w' F F') : Mv w w'.drew F F' := ⟨h.1, h.2.drew⟩
/-- what lies below B and is in no block of F stays so -/
theorem Mv.belowB {w w' : World} {F F' : Nat → Prop} {B : Nat} (h : Mv w w' F F') (hB : B ≤ w.heap.size) (hF : ∀ k, F k → B ≤ k) : Below B w w' ∧ ∀ k, F' k → B ≤ k :=
  ⟨h.2.below hB hF, fun k hk => (h.1 k hk).elim (hF k) (fun h2 => Nat.le_trans hB h2)⟩
/-- Bytes that lie outside of F. -/
def RdF (w : World) (F : Nat → Prop) (A : Option Addr) (n : Nat) (L : List Int) : Prop := Rd w w.heap.size 1 A n (L.map (Value.int .u8)) ∧ ∀ b o, A = some ⟨b, o, none⟩ → L ≠ [] → ¬ F b
theorem RdF.mv {w w' : World} {F F' : Nat → Prop} {A : Option Addr} {n : Nat} {L : List Int} (h : RdF w F A n L) (m : Mv w w' F F') : RdF w' F' A n L := by
  rcases L with _ | ⟨x, L⟩
  · exact ⟨⟨h.1.1, fun hne => absurd rfl hne⟩, fun b o _ hne => absurd rfl hne⟩
  · obtain ⟨b, o, e, hb, hc⟩ := h.1.2 (by simp)
    have hf := h.2 b o e (by simp)
    refine ⟨⟨h.1.1, fun _ => ⟨b, o, e, Nat.lt_of_lt_of_le hb m.size, fun j u hu => ?_⟩⟩, fun b' o' e' _ hF => ?_⟩
    · exact (World.cell?_of_block (w := w) (a := ⟨b, o + j, none⟩) (m.2.heap hb hf)).trans (hc j u hu)
    · rw [e] at e'
      injection e' with e'
      injection e' with e1 e2
      subst e1
      rcases m.1 _ hF with h2 | h2
      · exact hf h2
      · omega
theorem own_same' {w w' : World} {base : Nat} {e : TypeId} {sz n : Nat} {v : Value} {xs : List Value} (h : w.ownsRow base e sz v n xs) (hg : ∀ j, v.ownBlock = some j → w'.heap[j]? = w.heap[j]?) : w'.ownsRow base e sz v n xs := by
  refine ⟨h.1, ?_⟩
  rcases h.2 with h2 | ⟨g, cap, cur, h1, h2, h3, h4⟩
  · exact .inl h2
  · exact .inr ⟨g, cap, cur, h1, h2, (hg g (by rw [h1]; rfl)).trans h3, h4⟩
theorem own_ltX {w : World} {base : Nat} {e : TypeId} {sz n : Nat} {v : Value} {xs : List Value} (h : w.ownsRow base e sz v n xs) {k : Nat} (hk : v.ownBlock = some k) : k < w.heap.size := by
  rcases h.2 with ⟨rfl, _⟩ | ⟨g, cap, cur, rfl, hg, hgb, _⟩
  · simp [Value.ownBlock] at hk
  · obtain rfl : g = k := by simpa [Value.ownBlock] using hk
    exact (Array.getElem?_eq_some_iff.1 hgb).1
section
variable {w w1 w2 : World} {F : Nat → Prop} {g : Nat} {D : List Int} {S : List Value} {m : Nat} {n n1 : Nat} {A : Option Addr} {c : Nat} {B : Option Addr} {d : Nat}
theorem LqX.mv0 (h : LqX w F g D S m n A c B d) {G : Nat → Prop} (o : Only G w w1) (hG : ∀ k, F k → ¬ G k) : LqX w1 F g D S m n A c B d :=
  { h with
    V := h.V.only o (hG g h.fg)
    own := own_same' h.own fun k hk => o.heap (h.lt k (h.fa k hk).1) (hG k (h.fa k hk).1)
    sp := own_same' h.sp fun k hk => o.heap (h.lt k (h.fb k hk).1) (hG k (h.fb k hk).1)
    lt := fun k hk => Nat.lt_of_lt_of_le (h.lt k hk) o.size }
theorem LqX.below (h : LqX w F g D S m n A c B d) (hb : Below w.heap.size w w1) : LqX w1 F g D S m n A c B d :=
  h.mv0 (G := fun _ => False) (Only.of_below hb _ (fun k h1 h2 => by omega)) (fun _ _ => id)
theorem LqX.lift (h : LqX w F g D S m n A c B d) {G : Nat → Prop} (hFG : ∀ k, F k → G k) (hl : ∀ k, G k → k < w.heap.size) : LqX w G g D S m n A c B d :=
  { h with fg := hFG g h.fg, fa := fun k hk => ⟨hFG k (h.fa k hk).1, (h.fa k hk).2⟩, fb := fun k hk => ⟨hFG k (h.fb k hk).1, (h.fb k hk).2⟩, lt := hl }
/-- the log's own cells, its bytes having grown -/
theorem LqX.Va (h : LqX w F g D S m n A c B d) (hb : Below w.heap.size w w1) (g4 : w1.grownBy w2 (Value.slice A n c).ownBlock) : Vr w2 g 51 #[.slice A n c, .slice B m d] :=
  (h.V.call hb).grown g4 fun e => (h.fa g e.symm).2 rfl
theorem LqX.Vb (h : LqX w F g D S m n A c B d) (hb : Below w.heap.size w w1) (g4 : w1.grownBy w2 (Value.slice B m d).ownBlock) : Vr w2 g 51 #[.slice A n c, .slice B m d] :=
  (h.V.call hb).grown g4 fun e => (h.fb g e.symm).2 rfl
theorem LqX.app (h : LqX w F g D S m n A c B d) (hb : Below w.heap.size w w1) (xs : List Int) (hn1 : n + xs.length = n1) {A' : Option Addr} {c' : Nat} (g1 : n1 ≤ c') (g2 : c' ≤ maxLen) (g3 : w2.ownsRow 0 5 1 (.slice A' n1 c') n1 (D.map (Value.int .u8) ++ xs.map (Value.int .u8)))
    (g4 : w1.grownBy w2 (Value.slice A n c).ownBlock) (g5 : (Value.slice A' n1 c').ownBlock = (Value.slice A n c).ownBlock ∨ (Value.slice A' n1 c').ownBlock = some w1.heap.size) :
    LqX (w2.setCell ⟨g, 0, none⟩ (.slice A' n1 c')) (fun k => F k ∨ (Value.slice A' n1 c').ownBlock = some k) g (D ++ xs) S m n1 A' c' B d ∧
    Mv w (w2.setCell ⟨g, 0, none⟩ (.slice A' n1 c')) F (fun k => F k ∨ (Value.slice A' n1 c').ownBlock = some k) := by
  have hz := hb.size
  have hgw := h.lt g h.fg
  have hnew : ∀ k, (Value.slice A' n1 c').ownBlock = some k → (Value.slice A n c).ownBlock = some k ∨ k = w1.heap.size := fun k hk => by
    rcases g5 with e | e
    · exact .inl (e ▸ hk)
    · rw [e] at hk
      injection hk with hk
      exact .inr hk.symm
  have hng : ∀ k, (Value.slice A' n1 c').ownBlock = some k → k ≠ g := fun k hk => (hnew k hk).elim (fun e => (h.fa k e).2) (fun e => by omega)
  have hV := (h.Va hb g4).set 0 (.slice A' n1 c')
  have hsp : w2.ownsRow 0 58 2 (.slice B m d) m S := own_same' h.sp fun k hk => by
    have h1 := h.lt k (h.fb k hk).1
    rw [g4.block k (by omega) (fun e => h.ab k e.symm hk)]
    exact hb.block k h1
  have hz2 := g4.size
  refine ⟨⟨by rw [List.length_append, h.hn, hn1], hV, g1, g2, ?_, h.hd, h.hdm, ?_, .inl h.fg, fun k hk => ⟨.inr hk, hng k hk⟩, fun k hk => ⟨.inl (h.fb k hk).1, (h.fb k hk).2⟩, fun k hk he => ?_, fun k hk => ?_⟩, fun k hk => ?_, ?_⟩
  · rw [List.map_append]
    exact own_same' g3 fun k hk => Below.heap_setCell _ _ _ _ (hng k hk)
  · exact own_same' hsp fun k hk => Below.heap_setCell _ _ _ _ (h.fb k hk).2
  · rcases hnew k hk with e | e
    · exact h.ab k e he
    · have := h.lt k (h.fb k he).1
      omega
  · rw [World.size_setCell]
    rcases hk with hk | hk
    · have := h.lt k hk
      omega
    · exact own_ltX g3 hk
  · rcases hk with hk | hk
    · exact .inl hk
    · rcases hnew k hk with e | e
      · exact .inl (h.fa k e).1
      · exact .inr (by omega)
  · exact Only.setCell ((Only.of_below hb F (fun k h1 h2 => by omega)).grown g4 fun k e => .inl (h.fa k e).1) (p := ⟨g, 0, none⟩) (.inl h.fg) _
theorem LqX.spn (h : LqX w F g D S m n A c B d) (hb : Below w.heap.size w w1) (xs : List Value) {B' : Option Addr} {d' : Nat} (g1 : m + 1 ≤ d') (g2 : d' ≤ maxLen) (g3 : w2.ownsRow 0 58 2 (.slice B' (m + 1) d') (m + 1) (S ++ xs))
    (g4 : w1.grownBy w2 (Value.slice B m d).ownBlock) (g5 : (Value.slice B' (m + 1) d').ownBlock = (Value.slice B m d).ownBlock ∨ (Value.slice B' (m + 1) d').ownBlock = some w1.heap.size) :
    LqX (w2.setCell ⟨g, 1, none⟩ (.slice B' (m + 1) d')) (fun k => F k ∨ (Value.slice B' (m + 1) d').ownBlock = some k) g D (S ++ xs) (m + 1) n A c B' d' ∧
    Mv w (w2.setCell ⟨g, 1, none⟩ (.slice B' (m + 1) d')) F (fun k => F k ∨ (Value.slice B' (m + 1) d').ownBlock = some k) := by
  have hz := hb.size
  have hgw := h.lt g h.fg
  have hnew : ∀ k, (Value.slice B' (m + 1) d').ownBlock = some k → (Value.slice B m d).ownBlock = some k ∨ k = w1.heap.size := fun k hk => by
    rcases g5 with e | e
    · exact .inl (e ▸ hk)
    · rw [e] at hk
      injection hk with hk
      exact .inr hk.symm
  have hng : ∀ k, (Value.slice B' (m + 1) d').ownBlock = some k → k ≠ g := fun k hk => (hnew k hk).elim (fun e => (h.fb k e).2) (fun e => by omega)
  have hV := (h.Vb hb g4).set 1 (.slice B' (m + 1) d')
  have hown : w2.ownsRow 0 5 1 (.slice A n c) n (D.map (Value.int .u8)) := own_same' h.own fun k hk => by
    have h1 := h.lt k (h.fa k hk).1
    rw [g4.block k (by omega) (fun e => h.ab k hk e.symm)]
    exact hb.block k h1
  have hz2 := g4.size
  refine ⟨⟨h.hn, hV, h.hc, h.hcm, ?_, g1, g2, ?_, .inl h.fg, fun k hk => ⟨.inl (h.fa k hk).1, (h.fa k hk).2⟩, fun k hk => ⟨.inr hk, hng k hk⟩, fun k hk he => ?_, fun k hk => ?_⟩, fun k hk => ?_, ?_⟩
  · exact own_same' hown fun k hk => Below.heap_setCell _ _ _ _ (h.fa k hk).2
  · exact own_same' g3 fun k hk => Below.heap_setCell _ _ _ _ (hng k hk)
  · rcases hnew k he with e | e
    · exact h.ab k hk e
    · have := h.lt k (h.fa k hk).1
      omega
  · rw [World.size_setCell]
    rcases hk with hk | hk
    · have := h.lt k hk
      omega
    · exact own_ltX g3 hk
  · rcases hk with hk | hk
    · exact .inl hk
    · rcases hnew k hk with e | e
      · exact .inl (h.fb k e).1
      · exact .inr (by omega)
  · exact Only.setCell ((Only.of_below hb F (fun k h1 h2 => by omega)).grown g4 fun k e => .inl (h.fb k e).1) (p := ⟨g, 1, none⟩) (.inl h.fg) _
end
/-- the same, the slices' places left open -/
def Lq (w : World) (F : Nat → Prop) (g : Nat) (D : List Int) (S : List Value) (m : Nat) : Prop := ∃ n A c B d, LqX w F g D S m n A c B d
/-- the spans of records behind off bytes -/
def spansV : Nat → List (List Int) → List Value
  | _, [] => []
  | off, x :: xs => .int .i64 ((off + varL x.length + 8 : Nat) : Int) :: .int .i64 ((off + frameL x : Nat) : Int) :: spansV (off + frameL x) xs
theorem spansV_len : ∀ (off : Nat) (l : List (List Int)), (spansV off l).length = l.length * 2
  | _, [] => rfl
  | off, x :: xs => by simp [spansV, spansV_len]; omega
theorem spansV_snoc : ∀ (off : Nat) (l : List (List Int)) (x : List Int), spansV off (l ++ [x]) = spansV off l ++ [.int .i64 ((off + (framesI l).length + varL x.length + 8 : Nat) : Int), .int .i64 ((off + (framesI l).length + frameL x : Nat) : Int)]
  | off, [], x => by simp [spansV, framesI]
  | off, y :: l, x => by
    rw [List.cons_append, spansV, spansV_snoc, spansV, framesI_cons, List.length_append, frameI_len, ← Nat.add_assoc]
    rfl
theorem spansV_get : ∀ (off : Nat) (l : List (List Int)) (k : Nat) (h : k < l.length), (spansV off l)[k * 2]? = some (.int .i64 ((off + (framesI (l.take k)).length + varL (l[k]).length + 8 : Nat) : Int)) ∧ (spansV off l)[k * 2 + 1]? = some (.int .i64 ((off + (framesI (l.take k)).length + frameL l[k] : Nat) : Int))
  | off, x :: l, 0, h => ⟨by simp [spansV, framesI], by simp [spansV, framesI]⟩
  | off, x :: l, k + 1, h => by
    have := spansV_get (off + frameL x) l k (by simpa using h)
    rw [spansV, show (k + 1) * 2 = k * 2 + 1 + 1 from by omega, List.getElem?_cons_succ, List.getElem?_cons_succ, show k * 2 + 1 + 1 + 1 = (k * 2 + 1) + 1 + 1 from rfl, List.getElem?_cons_succ, List.getElem?_cons_succ, this.1, this.2]
    simp only [List.take_succ_cons, framesI_cons, List.length_append, frameI_len, List.getElem_cons_succ, Nat.add_assoc]
    first | exact ⟨rfl, rfl⟩ | exact ⟨trivial, trivial⟩ | simp
/-- A log that holds records. -/
def Lg (w : World) (F : Nat → Prop) (g : Nat) (recs : List (List Int)) : Prop := Lq w F g (framesI recs) (spansV 0 recs) recs.length
theorem Lq.mv0 {w w1 : World} {F : Nat → Prop} {g : Nat} {D : List Int} {S : List Value} {m : Nat} (h : Lq w F g D S m) {G : Nat → Prop} (o : Only G w w1) (hG : ∀ k, F k → ¬ G k) : Lq w1 F g D S m := by
  obtain ⟨n, A, c, B, d, h⟩ := h
  exact ⟨n, A, c, B, d, h.mv0 o hG⟩
theorem Lq.below {w w1 : World} {F : Nat → Prop} {g : Nat} {D : List Int} {S : List Value} {m : Nat} (h : Lq w F g D S m) (hb : Below w.heap.size w w1) : Lq w1 F g D S m := by
  obtain ⟨n, A, c, B, d, h⟩ := h
  exact ⟨n, A, c, B, d, h.below hb⟩
theorem Lg.below {w w1 : World} {F : Nat → Prop} {g : Nat} {recs : List (List Int)} (h : Lg w F g recs) (hb : Below w.heap.size w w1) : Lg w1 F g recs := Lq.below h hb
theorem Lg.mv0 {w w1 : World} {F : Nat → Prop} {g : Nat} {recs : List (List Int)} (h : Lg w F g recs) {G : Nat → Prop} (o : Only G w w1) (hG : ∀ k, F k → ¬ G k) : Lg w1 F g recs := Lq.mv0 h o hG
theorem Lg.lt {w : World} {F : Nat → Prop} {g : Nat} {recs : List (List Int)} (h : Lg w F g recs) : ∀ k, F k → k < w.heap.size := by
  obtain ⟨n, A, c, B, d, h⟩ := h
  exact h.lt
end Go.Proofs.Ytmoajnekegbncaa
