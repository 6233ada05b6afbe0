/-
  WHAT IS PROVED HERE: the walk of the law UnionfindIslands, and what the other laws share. Conditions: the arguments' lengths are a machine's.
-/
import Derived.Test.YtjmhibjkbnbefaaUfG
namespace Go.Proofs.Ytjmhibjkbnbefaa
set_option linter.unusedVariables false
open Go.ChangeShapes Go.WideShapes Go.ChangeAt Go.RowKit

theorem equal2_is (A A' : Option Addr) (n c n' c' : Nat) (l l' : List (List Int)) (w : World) (q : Bool) (rd : RdRows w A n l) (rd' : RdRows w A' n' l') (hs : Small l) (hs' : Small l') (hq : decide (l = l') = q) :
    Calls Try.prog 13 #[.slice A n c, .slice A' n' c'] w fun e w' => e = .returned (.bool q) ∧ Below w.heap.size w w' := by
  subst hq
  exact equal2_any A A' n c n' c' l l' w rd rd' hs hs'
theorem equal2_same (A A' : Option Addr) (n c n' c' : Nat) (l : List (List Int)) (w : World) (rd : RdRows w A n l) (rd' : RdRows w A' n' l) (hs : Small l) :
    Calls Try.prog 13 #[.slice A n c, .slice A' n' c'] w fun e w' => e = .returned (.bool true) ∧ Below w.heap.size w w' := equal2_is A A' n c n' c' l l w true rd rd' hs hs (by simp)
/-- A slice reads so, and does not lie in block g. -/
def RdN (w : World) (g sz : Nat) (A : Option Addr) (n : Nat) (xs : List Value) : Prop := Rd w w.heap.size sz A n xs ∧ ∀ ad, A = some ad → ad.block ≠ g
section
variable {w w' : World} {g sz n : Nat} {A : Option Addr} {xs : List Value}
theorem RdN.below (h : RdN w g sz A n xs) (hb : Below w.heap.size w w') : RdN w' g sz A n xs := ⟨rd_step h.1 hb, h.2⟩
theorem RdN.only (h : RdN w g sz A n xs) (ho : Only (· = g) w w') : RdN w' g sz A n xs := by
  refine ⟨⟨h.1.1, fun hx => ?_⟩, h.2⟩
  obtain ⟨b, o, e, hb, hc⟩ := h.1.2 hx
  have hne : ¬ b = g := h.2 _ e
  exact ⟨b, o, e, Nat.lt_of_lt_of_le hb ho.size, fun j u hu => (World.cell?_of_block (w := w) (a := ⟨b, o + j, none⟩) (ho.heap hb hne)).trans (hc j u hu)⟩
theorem RdN.of_new {base c : Nat} {e : TypeId} (h : w.ownsRow base e sz (.slice A n c) n xs) (hg : g < base) : RdN w g sz A n xs := ⟨rd_own h, fun ad he => by have := (own_blk h ad he).1; omega⟩
theorem RdN.of_old {base c : Nat} {e : TypeId} (h : w.ownsRow base e sz (.slice A n c) n xs) (hg : w.heap.size ≤ g) : RdN w g sz A n xs := ⟨rd_own h, fun ad he => by have := (own_blk h ad he).2; omega⟩
end
theorem o_drew {g : Nat} {a w : World} (h : Only (· = g) a w) : Only (· = g) a w.drew := h.drew
theorem o_drewN {g : Nat} {a w : World} (h : Only (· = g) a w) (n : Nat) : Only (· = g) a (w.drewN n) := h.drewN n
theorem o_alloc {g : Nat} {a w : World} (h : Only (· = g) a w) (o : Obj) : Only (· = g) a (w.alloc o) := h.alloc o
theorem o_call {g : Nat} {a b c : World} (h : Only (· = g) a b) (k : Only (· = g) b c) : Only (· = g) a c := h.trans k
theorem o_below {g : Nat} {a b c : World} (h : Only (· = g) a b) (k : Below b.heap.size b c) : Only (· = g) a c := h.trans (Only.of_below k _ (fun j h1 h2 => by omega))
theorem stillG {X w' : World} {g : Nat} (h : Only (· = g) X w') : (∀ b o, b < X.heap.size → b ≠ g → w'.cell? ⟨b, o, none⟩ = X.cell? ⟨b, o, none⟩) ∧ Only (· = g) X w' :=
  ⟨fun b o hb hg => World.cell?_of_block (w := X) (a := ⟨b, o, none⟩) (h.heap hb hg), h⟩
theorem cell_keepG {X w' : World} {g : Nat} {p : Addr} {v : Value} (hb : Only (· = g) X w') (hp : p.block ≠ g) (hc : X.cell? p = some v) : w'.cell? p = some v :=
  (World.cell?_of_block (w := X) (a := p) (hb.heap (World.block_lt_of_cell? X p hc) hp)).trans hc

theorem stillB {X w' : World} {B : Nat} (h : Below B X w') : (∀ b o, b < B → w'.cell? ⟨b, o, none⟩ = X.cell? ⟨b, o, none⟩) ∧ Below B X w' := ⟨(bcell h).1, h⟩
theorem own_drew {w : World} {base : Nat} {e : TypeId} {sz n : Nat} {v : Value} {xs : List Value} (h : w.ownsRow base e sz v n xs) : w.drew.ownsRow base e sz v n xs := h
theorem ufunion_is (p g n : Nat) (f : Nat → Nat) (a b : Int) (w : World) (q : Bool) (f' : Nat → Nat) (hq : uniB n f a b = q) (hf : uniF n f a b = f') (hn : n ≤ 10000) (ha0 : -9223372036854775808 ≤ a ∧ a ≤ 9223372036854775807) (hb0 : -9223372036854775808 ≤ b ∧ b ≤ 9223372036854775807) (hU : Ufs w p g n f) :
    Calls Try.prog 25 #[.pointer (some ⟨p, 0, none⟩), .int .i64 a, .int .i64 b] w fun e w' => e = .returned (.bool q) ∧ Ufs w' p g n f' ∧ Only (· = g) w w' := by
  subst hq hf
  exact ufunion_any p g n f a b w hn ha0 hb0 hU
theorem ufsame_is (p g n : Nat) (f : Nat → Nat) (a b : Int) (w : World) (q : Bool) (hq : sameU n f a b = q) (hn : n ≤ 10000) (ha0 : -9223372036854775808 ≤ a ∧ a ≤ 9223372036854775807) (hb0 : -9223372036854775808 ≤ b ∧ b ≤ 9223372036854775807) (hU : Ufs w p g n f) :
    Calls Try.prog 26 #[.pointer (some ⟨p, 0, none⟩), .int .i64 a, .int .i64 b] w fun e w' => e = .returned (.bool q) ∧ Ufs w' p g n f ∧ Only (· = g) w w' := by
  subst hq
  exact ufsame_any p g n f a b w hn ha0 hb0 hU
theorem refsame_is (A : Option Addr) (n c : Nat) (s : List Int) (f : Nat → Nat) (a b : Int) (w : World) (q : Bool) (hq : sameU n f a b = q) (hn : n ≤ 10000) (hs : s.length = n) (hR : RelU s f) (rd : Rd w w.heap.size 1 A n (s.map (Value.int .i64))) :
    Calls Try.prog 27 #[.slice A n c, .int .i64 a, .int .i64 b] w fun e w' => e = .returned (.bool q) ∧ Below w.heap.size w w' := by
  subst hq
  exact refsame_any A n c s f a b w hn hs hR rd
theorem refunion_is (A : Option Addr) (n c : Nat) (s : List Int) (f : Nat → Nat) (a b : Int) (w : World) (q : Bool) (hq : uniB n f a b = q) (hn : n ≤ 10000) (hs : s.length = n) (hR : RelU s f) (rd : Rd w w.heap.size 1 A n (s.map (Value.int .i64))) :
    Calls Try.prog 24 #[.slice A n c, .int .i64 a, .int .i64 b] w (RetU w n (uniS s a b) q A) := by
  subst hq
  exact refunion_any A n c s f a b w hn hs hR rd

def edgesOf (l : List Int) : List (Int × Int) := (l.map edgeOf).take 30
theorem edgesOf_bd (l : List Int) : ∀ e ∈ edgesOf l, (-1 ≤ e.1 ∧ e.1 ≤ 14) ∧ (0 ≤ e.2 ∧ e.2 ≤ 14) := by
  intro e he
  obtain ⟨x, _, rfl⟩ := List.mem_map.1 (List.mem_of_mem_take he)
  exact edge_bd x
theorem edgesOf_ok (l : List Int) : EdgeBd (edgesOf l) := by
  intro e he
  have := edgesOf_bd l e he
  omega
theorem size_nat (n : Int) : ∃ K : Nat, around n 15 = K ∧ K ≤ 14 := by
  have := around_bd n 15 (by omega)
  exact ⟨(around n 15).toNat, by omega, by omega⟩

set_option maxHeartbeats 1000000 in
theorem islands_walk (a : Int) (A : Option Addr) (n c : Nat) (l : List Int) (w : World) (ha : -9223372036854775808 ≤ a ∧ a ≤ 9223372036854775807)
    (nc : n ≤ c) (cm : c ≤ maxLen) (ln : l.length = n) (rd : Rd w w.heap.size 1 A n (l.map (Value.int .i64))) (wf : ∀ x ∈ l, (Lit.int .i64 x).wf = true) :
    Calls Try.prog 3 #[.int .i64 a, .slice A n c] w fun e w' => e = .returned (.bool true) ∧ Below w.heap.size w w' := by
  have RD := Lib.hid rd
  have H64 := Lib.hid (fun x hx => bounds_i64 (wf x hx))
  have hn : n ≤ 9223372036854775807 := by unfold maxLen at cm; omega
  obtain ⟨K, hK, hK14⟩ := size_nat a
  have HK := Lib.hid hK
  have HB := Lib.hid (edgesOf_ok l)
  have hm30 : min n 30 ≤ 30 := Nat.min_le_right _ _
  have HS := Lib.hid (groups_small (f := foldU K idU (edgesOf l)) (n := K) (by omega))
  clear rd wf nc cm ln hK
  go_enter Try.func3, Try.ntmps3
  go_wp2_with fail
  refine (size_any a _ ha.1 ha.2).mono ?_
  rintro e w_ ⟨rfl, rfl⟩
  rw [HK.out]
  go_wp2_with fail
  refine (edges_any A n c l _ H64.out RD.out hn).mono ?_
  rintro e w1 ⟨A1, c1, rfl, hc1, hm1, own1, hb1⟩
  have R1 := Lib.hid (show Rd w1 w1.heap.size 2 A1 (min n 30) (flat2 (edgesOf l)) from rd_own own1)
  clear own1
  go_wp2_with fail
  refine (islands_any K A1 _ c1 (edgesOf l) _ (by omega) (by omega) HB.out R1.out).mono ?_
  rintro e w2 ⟨A2, c2, vs2, rfl, hc2, hm2, own2, rows2, hb2⟩
  have R2 := Lib.hid (RdRows.of own2 rfl rows2)
  clear own2 rows2
  go_wp2_with fail
  refine (refislands_any K A1 _ c1 (edgesOf l) _ (by omega) (by omega) HB.out (rd_step R1.out hb2)).mono ?_
  rintro e w3 ⟨A3, c3, vs3, rfl, hc3, hm3, own3, rows3, hb3⟩
  have R3 := Lib.hid (RdRows.of own3 rfl rows3)
  clear own3 rows3
  generalize groupsI (foldU K idU (edgesOf l)) K = G at *
  go_wp2_with fail
  refine (equal2_same A2 A3 _ c2 _ c3 G _ (R2.out.step hb3) R3.out HS.out).mono ?_
  rintro e w4 ⟨rfl, hb4⟩
  go_wp2_with fail
  refine (lives_any _).mono ?_
  rintro e w5 ⟨rfl, hb5⟩
  go_wp2
  go_ret
  exact ⟨rfl, by (repeat (first | (with_reducible exact Below.refl _ _) | (with_reducible assumption) | (with_reducible refine b_drew ?_) | (with_reducible refine b_drewN ?_ _) | (with_reducible refine b_alloc ?_ _) | ((with_reducible refine b_set ?_ ?_ _); rotate_left; (focus (first | omega | (simp; done) | (simp; omega) | (simp at *; omega)))) | (with_reducible refine b_call ?_ (by with_reducible assumption))))⟩
end Go.Proofs.Ytjmhibjkbnbefaa
