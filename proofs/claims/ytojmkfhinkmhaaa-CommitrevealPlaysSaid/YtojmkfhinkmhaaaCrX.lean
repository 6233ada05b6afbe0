/-
  WHAT IS PROVED HERE: a round and its reference side by side: plain facts. No condition beyond what each theorem states.
-/
import Derived.Test.YtojmkfhinkmhaaaCrW
namespace Go.Proofs.Ytojmkfhinkmhaaa
set_option linter.unusedVariables false
open Go.ChangeShapes Go.WideShapes Go.ChangeAt Go.RowKit

/-- The reference's round lies in the box bx. -/
structure Rfx (w : World) (bx g : Nat) (r : RdV) (A : Option Addr) (c : Nat) : Prop where
  V : Vr w bx 56 #[.int .i64 r.t, .slice A r.k c, .bool r.o]
  R : Rd w w.heap.size 6 A r.k (onesC r.st r.k)
  n : ∀ a, A = some a → a.block ≠ bx ∧ a.block ≠ g
theorem Rfx.call {w w' : World} {bx g : Nat} {r : RdV} {A : Option Addr} {c : Nat} (h : Rfx w bx g r A c) (hb : Below w.heap.size w w') : Rfx w' bx g r A c := ⟨h.V.call hb, rd_step h.R hb, h.n⟩
theorem rd_only {w w' : World} {B sz n x : Nat} {A : Option Addr} {xs : List Value} (h : Rd w B sz A n xs) (hB : B ≤ w.heap.size) (hO : Only (· = x) w w') (hx : ∀ a, A = some a → a.block ≠ x) : Rd w' B sz A n xs := by
  refine ⟨h.1, fun hne => ?_⟩
  obtain ⟨b, o, e, hb, hc⟩ := h.2 hne
  refine ⟨b, o, e, hb, fun j u hu => ?_⟩
  rw [World.cell?_of_block (w := w) (a := ⟨b, o + j, none⟩) (hO.heap (Nat.lt_of_lt_of_le hb hB) (fun h => hx ⟨b, o, none⟩ e h))]
  exact hc j u hu
theorem Rfx.only {w w' : World} {bx g : Nat} {r : RdV} {A : Option Addr} {c : Nat} (h : Rfx w bx g r A c) (hO : Only (· = g) w w') (hne : bx ≠ g) : Rfx w' bx g r A c :=
  ⟨h.V.only hO hne, (rd_only h.R (Nat.le_refl _) hO fun a e => (h.n a e).2).more hO.size, h.n⟩
theorem Rfx.cells {w : World} {bx g : Nat} {r : RdV} {A : Option Addr} {c : Nat} (h : Rfx w bx g r A c) : w.cell? ⟨bx, 0, none⟩ = some (.int .i64 r.t) ∧ w.cell? ⟨bx, 1, none⟩ = some (.slice A r.k c) ∧ w.cell? ⟨bx, 2, none⟩ = some (.bool r.o) ∧ bx < w.heap.size ∧ ∀ i, w.frozen? ⟨bx, i, none⟩ = false :=
  ⟨h.V.cell 0, h.V.cell 1, h.V.cell 2, h.V.lt, h.V.frozen⟩
/-- The box is written: a new round of the reference. -/
theorem Rfx.put {w w' : World} {bx g : Nat} {r r' : RdV} {A A' : Option Addr} {c c' : Nat} (h : Rfx w bx g r A c) (hO : Only (· = bx) w w') (hV : Vr w' bx 56 #[.int .i64 r'.t, .slice A' r'.k c', .bool r'.o]) (hR : Rd w w.heap.size 6 A' r'.k (onesC r'.st r'.k)) (hn : ∀ a, A' = some a → a.block ≠ bx ∧ a.block ≠ g) : Rfx w' bx g r' A' c' :=
  ⟨hV, (rd_only hR (Nat.le_refl _) hO fun a e => (hn a e).1).more hO.size, hn⟩
/-- Who did not commit has revealed nothing. -/
def OkR (r : RdV) : Prop := ∀ q, (r.st q).c = false → (r.st q).r = false ∧ (r.st q).i = (0, 0, 0)
theorem okR_new (k : Nat) (t : Int) : OkR (newR k t) := fun q _ => ⟨rfl, rfl⟩
theorem okR_cm {r : RdV} (h : OkR r) (q : Nat) (c : Int) : OkR (cmR r q c) := fun p hp => by
  unfold cmR at hp ⊢
  by_cases hpq : p = q
  · subst hpq; simp only [setSt_at] at hp; cases hp
  · simp only [setSt_ne hpq] at hp ⊢; exact h p hp
theorem okR_cmS {r : RdV} (h : OkR r) (pl c : Int) : OkR (cmS r pl c) := by
  unfold cmS
  split
  · exact okR_cm h _ _
  · exact h
theorem rv_comm {r : RdV} {q : Nat} {x : Inp} {n : Int} (h : rvE r q x n = 0) : (r.st q).c = true := by
  unfold rvE at h
  rw [toNat_q] at h
  rcases hb : badP r.k q with _ | _ <;> rcases ho : r.o with _ | _ <;> rcases hc : (r.st q).c with _ | _ <;> simp [hb, ho, hc] at h ⊢
theorem okR_rvS {r : RdV} (h : OkR r) (pl : Int) (x : Inp) (n : Int) : OkR (rvS r pl x n) := by
  unfold rvS
  split
  · rename_i he
    obtain ⟨q, rfl, _⟩ := rv_good he
    have hc := rv_comm he
    intro p hp
    unfold rvR at hp ⊢
    rw [toNat_q] at hp ⊢
    by_cases hpq : p = q
    · subst hpq; simp only [setSt_at] at hp; rw [hc] at hp; cases hp
    · simp only [setSt_ne hpq] at hp ⊢; exact h p hp
  · exact h
theorem okR_ds {r : RdV} (h : OkR r) (T : Int) {a : ActV} (hG : ActG a) : OkR (dsR r T a) := by
  obtain ⟨d, p, x, n⟩ := a
  rcases hG.hd with hd | hd | hd
  · simp only at hd; subst hd; rw [dsR_0]; exact okR_cmS h _ _
  · simp only at hd; subst hd; rw [dsR_1]; exact okR_rvS h _ _ _
  · simp only at hd; subst hd; rw [dsR_2]; exact h
/-- Two rounds agree from player j on. -/
structure Ag (j : Int) (r s : RdV) : Prop where
  k : r.k = s.k
  t : r.t = s.t
  o : r.o = s.o
  st : ∀ q : Nat, j ≤ q → r.st q = s.st q
theorem ag_rel {j : Int} {r s : RdV} (h : Ag j r s) {q : Nat} (hq : j ≤ q) : Rel q r s := ⟨h.k, h.t, h.o, h.st q hq⟩
theorem ag_cm {j : Int} {r s : RdV} (h : Ag j r s) (ho : s.o = true) : cmE r j = cmE s j ∧ ¬ cmE s j = 0 := by
  by_cases hb : badP s.k j = true
  · refine ⟨?_, ?_⟩ <;> unfold cmE
    · rw [h.k, hb]; rfl
    · rw [hb]; simp
  · have hb : badP s.k j = false := by simpa using hb
    refine ⟨?_, ?_⟩ <;> unfold cmE
    · rw [h.k, hb, h.o, ho]; rfl
    · rw [hb, ho]; simp
theorem ag_rv {j : Int} {r s : RdV} (h : Ag j r s) (x : Inp) (n : Int) : rvE r j x n = rvE s j x n ∧ Ag (j + 1) (rvS r j x n) s := by
  by_cases hb : badP s.k j = true
  · have e1 : rvE r j x n = 17 := by unfold rvE; rw [h.k, hb]; rfl
    have e2 : rvE s j x n = 17 := by unfold rvE; rw [hb]; rfl
    refine ⟨e1.trans e2.symm, ?_⟩
    unfold rvS
    rw [if_neg (by rw [e1]; decide)]
    exact ⟨h.k, h.t, h.o, fun q hq => h.st q (by omega)⟩
  · obtain ⟨q, rfl, hq⟩ := badP_nat (show badP s.k j = false by simpa using hb)
    have e := rvE_rel (ag_rel h (Int.le_refl _)) x n
    refine ⟨e, ?_⟩
    unfold rvS
    split
    · exact ⟨h.k, h.t, h.o, fun p hp => (setSt_ne (by rw [toNat_q]; omega)).trans (h.st p (by omega))⟩
    · exact ⟨h.k, h.t, h.o, fun p hp => h.st p (by omega)⟩
theorem ag_self (j : Int) (r : RdV) : Ag j r r := ⟨rfl, rfl, rfl, fun _ _ => rfl⟩
/-- the calls, and a closing behind them -/
def actsEnd (L : List ActV) : List ActV := L ++ [⟨2, 0, (0, 0, 0), 0⟩]
theorem actsEnd_good {L : List ActV} (h : ∀ a ∈ L, ActG a) : ∀ a ∈ actsEnd L, ActG a := by
  intro a ha
  rcases List.mem_append.1 ha with ha | ha
  · exact h a ha
  · rw [List.mem_singleton.1 ha]
    exact ⟨.inr (.inr rfl), by decide, by decide, Classical.em _⟩
theorem actsEnd_last {L : List ActV} {i : Nat} (h : i < (actsEnd L).length) (hi : i + 1 = (actsEnd L).length) : (actsEnd L)[i] = ⟨2, 0, (0, 0, 0), 0⟩ := by
  have : i = L.length := by simp [actsEnd] at hi; omega
  subst this
  simp [actsEnd]
theorem fresh_ne {A A3 : Option Addr} {n h b : Nat} (hal : ∀ a, A = some a → a.block < n) (h1 : n ≤ h) (h2 : h < b) (hn : A3 = A ∨ ∀ a, A3 = some a → b ≤ a.block) : ∀ a, A3 = some a → a.block ≠ h := by
  intro a e
  rcases hn with rfl | hn
  · have := hal a e; omega
  · have := hn a e; omega
theorem fresh_or {A A3 : Option Addr} {n b : Nat} (h : n ≤ b) (hn : A3 = A ∨ ∀ a, A3 = some a → b ≤ a.block) : A3 = A ∨ ∀ a, A3 = some a → n ≤ a.block := by
  rcases hn with h1 | h1
  · exact .inl h1
  · exact .inr fun a e => Nat.le_trans h (h1 a e)
theorem ref_lt {w : World} {A : Option Addr} {k : Nat} {f : Nat → StV} (h : Rd w w.heap.size 6 A k (onesC f k)) (hk : 0 < k) : ∀ a, A = some a → a.block ≠ w.heap.size := by
  intro a e
  obtain ⟨b, o, e', hb, _⟩ := refr_len h hk
  rw [e'] at e
  injection e with e
  subst e
  show b ≠ _
  omega
theorem rd_set3 {w : World} {A : Option Addr} {k x : Nat} {xs : List Value} (h : Rd w w.heap.size 6 A k xs) (hx : ∀ a, A = some a → a.block ≠ x) (u0 u1 u2 : Value) : Rd (((w.setCell ⟨x, 0, none⟩ u0).setCell ⟨x, 1, none⟩ u1).setCell ⟨x, 2, none⟩ u2) (((w.setCell ⟨x, 0, none⟩ u0).setCell ⟨x, 1, none⟩ u1).setCell ⟨x, 2, none⟩ u2).heap.size 6 A k xs := by
  have hO : Only (· = x) w (((w.setCell ⟨x, 0, none⟩ u0).setCell ⟨x, 1, none⟩ u1).setCell ⟨x, 2, none⟩ u2) := o_set (o_set (o_set (Only.refl _ _) _ _) _ _) _ _
  exact (rd_only h (Nat.le_refl _) hO hx).more hO.size
/-- All that the law's loops keep: the round at g, the reference's in the box bx, and what is only read. -/
structure Py (w0 w : World) (g bx b10 BX : Nat) (ra rb rc : Int) (A7 : Option Addr) (m c7 : Nat) (La : List ActV) (A5 : Option Addr) (mk c5 : Nat) (known : List Inp) (r s : RdV) (A : Option Addr) (c : Nat) : Prop where
  x : Cx w0 w g r
  f : Rfx w bx g s A c
  v : Vr w b10 25 #[.int .i64 ra, .int .i64 rb, .int .i64 rc]
  o : w.ownsRow BX 49 6 (.slice A7 m c7) m (actsC La)
  kn : w.ownsRow BX 25 3 (.slice A5 mk c5) mk (flat known)
  hne : bx ≠ g
  n1 : b10 ≠ g
  n2 : b10 ≠ bx
  hbl : bx < BX
  hgl : g < BX
  hx : w0.heap.size ≤ bx
section
variable {w0 w w' : World} {g bx b10 BX : Nat} {ra rb rc : Int} {A7 : Option Addr} {m c7 : Nat} {La : List ActV} {A5 : Option Addr} {mk c5 : Nat} {known : List Inp} {r s r' : RdV} {A A' : Option Addr} {c c' : Nat}
theorem Py.call (h : Py w0 w g bx b10 BX ra rb rc A7 m c7 La A5 mk c5 known r s A c) (hb : Below w.heap.size w w') : Py w0 w' g bx b10 BX ra rb rc A7 m c7 La A5 mk c5 known r s A c :=
  ⟨h.x.call hb, h.f.call hb, h.v.call hb, own_below h.o hb, own_below h.kn hb, h.hne, h.n1, h.n2, h.hbl, h.hgl, h.hx⟩
theorem Py.turn (h : Py w0 w g bx b10 BX ra rb rc A7 m c7 La A5 mk c5 known r s A c) (hc : Cr w' g r') (hO : Only (· = g) w w') : Py w0 w' g bx b10 BX ra rb rc A7 m c7 La A5 mk c5 known r' s A c :=
  ⟨h.x.turn hc hO, h.f.only hO h.hne, h.v.only hO h.n1, own_turn h.o hO h.hgl, own_turn h.kn hO h.hgl, h.hne, h.n1, h.n2, h.hbl, h.hgl, h.hx⟩
theorem Py.put (h : Py w0 w g bx b10 BX ra rb rc A7 m c7 La A5 mk c5 known r s A c) (hO : Only (· = bx) w w') (hV : Vr w' bx 56 #[.int .i64 r'.t, .slice A' r'.k c', .bool r'.o]) (hR : Rd w w.heap.size 6 A' r'.k (onesC r'.st r'.k)) (hn : ∀ a, A' = some a → a.block ≠ bx ∧ a.block ≠ g) :
    Py w0 w' g bx b10 BX ra rb rc A7 m c7 La A5 mk c5 known r r' A' c' :=
  ⟨⟨Vr.only h.x.cr hO (Ne.symm h.hne), h.x.hp, below_cr h.x.hb h.hx hO⟩, h.f.put hO hV hR hn, h.v.only hO h.n2, own_turn h.o hO h.hbl, own_turn h.kn hO h.hbl, h.hne, h.n1, h.n2, h.hbl, h.hgl, h.hx⟩
/-- a new slice of the reference's lies apart -/
theorem Py.fresh {w1 : World} (h : Py w0 w g bx b10 BX ra rb rc A7 m c7 La A5 mk c5 known r s A c) (hw : w.heap.size ≤ w1.heap.size) (hA : A' = A ∨ ∀ a, A' = some a → w1.heap.size ≤ a.block) : ∀ a, A' = some a → a.block ≠ bx ∧ a.block ≠ g := by
  intro a e
  rcases hA with rfl | hA
  · exact h.f.n a e
  · have h1 := hA a e
    have h2 := h.f.cells.2.2.2.1
    have h3 := h.x.cr.facts.2.2.2.1
    exact ⟨by omega, by omega⟩
end
end Go.Proofs.Ytojmkfhinkmhaaa
