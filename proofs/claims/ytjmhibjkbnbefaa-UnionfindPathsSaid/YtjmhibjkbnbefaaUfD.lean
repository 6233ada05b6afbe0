/-
  WHAT IS PROVED HERE: lists of groups in memory, and the contracts of the reference's Equal and Groups. No condition but bounds that every machine's lengths meet.
-/
import Derived.Test.YtjmhibjkbnbefaaUfC
import Derived.Test.YtjmhibjkbnbefaaHlpSI
namespace Go.Proofs.Ytjmhibjkbnbefaa
set_option linter.unusedVariables false
open Go.ChangeShapes Go.WideShapes Go.ChangeAt Go.RowKit

def Apart (v u : Value) : Prop := v.ownBlock = none ∨ v.ownBlock ≠ u.ownBlock
theorem own_types {w : World} {b b' : Nat} {e e' : TypeId} {sz sz' : Nat} {v v' : Value} {n n' : Nat} {xs xs' : List Value} (h : w.ownsRow b e sz v n xs) (h' : w.ownsRow b' e' sz' v' n' xs') (he : e ≠ e') : Apart v v' := by
  rcases h.2 with ⟨rfl, _⟩ | ⟨g, cap, cur, rfl, _, hh, _⟩
  · exact .inl rfl
  · refine .inr ?_
    rcases h'.2 with ⟨rfl, _⟩ | ⟨g', cap', cur', rfl, _, hh', _⟩
    · intro e; cases e
    · intro e1
      simp only [Value.ownBlock, Option.some.injEq] at e1
      subst e1
      rw [hh] at hh'
      injection hh' with hh'
      injection hh' with _ h2
      exact he h2
theorem own_only {w w' : World} {base : Nat} {e : TypeId} {sz : Nat} {v : Value} {n : Nat} {xs : List Value} {G : Nat → Prop} (h : w.ownsRow base e sz v n xs) (ho : Only G w w') (hG : ∀ j, base ≤ j → ¬ G j) : w'.ownsRow base e sz v n xs := by
  refine ⟨h.1, ?_⟩
  rcases h.2 with h2 | ⟨g, cap, cur, h1, h2, h3, h4⟩
  · exact .inl h2
  · refine .inr ⟨g, cap, cur, h1, h2, ?_, h4⟩
    have hlt : g < w.heap.size := by
      rcases Nat.lt_or_ge g w.heap.size with h5 | h5
      · exact h5
      · rw [Array.getElem?_eq_none h5] at h3; cases h3
    exact (ho.heap hlt (hG g h2)).trans h3

def intsI (l : List Nat) : List Int := l.map fun (k : Nat) => (k : Int)
theorem intsI_len (l : List Nat) : (intsI l).length = l.length := by simp [intsI]
def groupsI (f : Nat → Nat) (n : Nat) : List (List Int) := (groupsU f n).map intsI
/-- The values vs are slices of the call's own: they read as rows. -/
def RowsOf (w : World) (base : Nat) (vs : List Value) (rows : List (List Int)) : Prop :=
  vs.length = rows.length ∧ ∀ (i : Nat) (v : Value) (row : List Int), vs[i]? = some v → rows[i]? = some row → ∃ A c, v = .slice A row.length c ∧ w.ownsRow base 3 1 v row.length (row.map (Value.int .i64))
theorem RowsOf.nil (w : World) (base : Nat) : RowsOf w base [] [] := ⟨rfl, fun i v row h => by simp at h⟩
theorem RowsOf.kept {w w' : World} {base : Nat} {vs : List Value} {rows : List (List Int)} {row : Option Nat} (h : RowsOf w base vs rows) (hg : w.grownBy w' row) (hap : ∀ v ∈ vs, v.ownBlock = none ∨ v.ownBlock ≠ row) : RowsOf w' base vs rows :=
  ⟨h.1, fun i v r hv hr => by
    obtain ⟨A, c, e, ho⟩ := h.2 i v r hv hr
    exact ⟨A, c, e, ho.kept hg (hap v (List.mem_of_getElem? hv))⟩⟩
theorem RowsOf.below {w w' : World} {base : Nat} {vs : List Value} {rows : List (List Int)} (h : RowsOf w base vs rows) (hb : Below w.heap.size w w') : RowsOf w' base vs rows :=
  ⟨h.1, fun i v r hv hr => by
    obtain ⟨A, c, e, ho⟩ := h.2 i v r hv hr
    exact ⟨A, c, e, own_below ho hb⟩⟩
theorem RowsOf.only {w w' : World} {base : Nat} {vs : List Value} {rows : List (List Int)} {G : Nat → Prop} (h : RowsOf w base vs rows) (hb : Only G w w') (hG : ∀ j, base ≤ j → ¬ G j) : RowsOf w' base vs rows :=
  ⟨h.1, fun i v r hv hr => by
    obtain ⟨A, c, e, ho⟩ := h.2 i v r hv hr
    exact ⟨A, c, e, own_only ho hb hG⟩⟩
theorem RowsOf.mono {w : World} {base base' : Nat} {vs : List Value} {rows : List (List Int)} (h : RowsOf w base vs rows) (hb : base' ≤ base) : RowsOf w base' vs rows :=
  ⟨h.1, fun i v r hv hr => by
    obtain ⟨A, c, e, ho⟩ := h.2 i v r hv hr
    exact ⟨A, c, e, own_mono ho hb⟩⟩
theorem RowsOf.snoc {w : World} {base : Nat} {vs : List Value} {rows : List (List Int)} (h : RowsOf w base vs rows) {v : Value} {row : List Int} {A : Option Addr} {c : Nat} (hv : v = .slice A row.length c) (ho : w.ownsRow base 3 1 v row.length (row.map (Value.int .i64))) : RowsOf w base (vs ++ [v]) (rows ++ [row]) := by
  refine ⟨by simp [h.1], fun i u r hu hr => ?_⟩
  rcases Nat.lt_or_ge i vs.length with hi | hi
  · rw [List.getElem?_append_left hi] at hu
    rw [List.getElem?_append_left (by rw [← h.1]; exact hi)] at hr
    exact h.2 i u r hu hr
  · rw [List.getElem?_append_right hi] at hu
    rw [List.getElem?_append_right (by rw [← h.1]; exact hi), ← h.1] at hr
    rcases hj : i - vs.length with _ | j
    · rw [hj] at hu hr
      simp at hu hr
      subst hu hr
      exact ⟨A, c, hv, ho⟩
    · rw [hj] at hu
      simp at hu
/-- Every value of such a list owns numbers. -/
theorem RowsOf.at {w : World} {base : Nat} {vs : List Value} {rows : List (List Int)} (h : RowsOf w base vs rows) {v : Value} (hv : v ∈ vs) : ∃ row : List Int, w.ownsRow base 3 1 v row.length (row.map (Value.int .i64)) := by
  obtain ⟨i, hi, rfl⟩ := List.mem_iff_getElem.1 hv
  have hr : i < rows.length := by rw [← h.1]; exact hi
  obtain ⟨A, c, _, ho⟩ := h.2 i _ _ (List.getElem?_eq_getElem hi) (List.getElem?_eq_getElem hr)
  exact ⟨_, ho⟩
/-- Groups come back: new memory; old memory is as it was. -/
def RetRows (w : World) (rows : List (List Int)) (e : Ending) (w' : World) : Prop :=
  ∃ A c vs, e = .returned (.slice A rows.length c) ∧ rows.length ≤ c ∧ c ≤ maxLen ∧ w'.ownsRow w.heap.size 22 1 (.slice A rows.length c) rows.length vs ∧ RowsOf w' w.heap.size vs rows ∧ Below w.heap.size w w'
/-- A slice of slices reads so. -/
def RdRows (w : World) (A : Option Addr) (n : Nat) (rows : List (List Int)) : Prop :=
  n = rows.length ∧ ∃ vs, Rd w w.heap.size 1 A n vs ∧ ∀ (i : Nat) (v : Value) (row : List Int), vs[i]? = some v → rows[i]? = some row → ∃ A' c', v = .slice A' row.length c' ∧ Rd w w.heap.size 1 A' row.length (row.map (Value.int .i64))
theorem RdRows.step {w w' : World} {A : Option Addr} {n : Nat} {rows : List (List Int)} (h : RdRows w A n rows) (hb : Below w.heap.size w w') : RdRows w' A n rows := by
  obtain ⟨h1, vs, h2, h3⟩ := h
  refine ⟨h1, vs, rd_step h2 hb, fun i v row hv hr => ?_⟩
  obtain ⟨A', c', e, h4⟩ := h3 i v row hv hr
  exact ⟨A', c', e, rd_step h4 hb⟩
theorem RdRows.of {w : World} {base b2 : Nat} {A : Option Addr} {n c : Nat} {vs : List Value} {rows : List (List Int)} (h : w.ownsRow base 22 1 (.slice A n c) n vs) (hn : n = rows.length) (hr : RowsOf w b2 vs rows) : RdRows w A n rows := by
  refine ⟨hn, vs, rd_own h, fun i v row hv hrow => ?_⟩
  obtain ⟨A', c', e, ho⟩ := hr.2 i v row hv hrow
  subst e
  exact ⟨A', c', rfl, rd_own ho⟩
/-- Row k of such a slice, opened. -/
theorem RdRows.open {w : World} {A : Option Addr} {n : Nat} {rows : List (List Int)} (h : RdRows w A n rows) {k : Nat} (hk : k < n) :
    ∃ b o A' c', A = some ⟨b, o, none⟩ ∧ b < w.heap.size ∧ w.cell? ⟨b, o + k, none⟩ = some (.slice A' (rows.getD k []).length c') ∧ Rd w w.heap.size 1 A' (rows.getD k []).length ((rows.getD k []).map (Value.int .i64)) := by
  obtain ⟨h1, vs, h2, h3⟩ := h
  have hl : k < vs.length := by have := h2.1; omega
  obtain ⟨b, o, e, hb, hc⟩ := h2.open1 hk
  have hr : k < rows.length := by omega
  obtain ⟨A', c', e', h4⟩ := h3 k _ _ (List.getElem?_eq_getElem hl) (List.getElem?_eq_getElem hr)
  refine ⟨b, o, A', c', e, hb, ?_, ?_⟩
  · rw [hc, e']
    simp [List.getD_eq_getElem?_getD, hr]
  · simpa [List.getD_eq_getElem?_getD, hr] using h4

theorem take_eq_succ2 {α : Type} {l l' : List α} {k : Nat} (h : l.take k = l'.take k) (h1 : k < l.length) (h2 : k < l'.length) (d : α) (he : l.getD k d = l'.getD k d) : l.take (k + 1) = l'.take (k + 1) := by
  rw [List.take_succ_eq_append_getElem h1, List.take_succ_eq_append_getElem h2, h]
  simp [List.getD_eq_getElem?_getD, h1, h2] at he
  rw [he]
def Small (rows : List (List Int)) : Prop := rows.length ≤ 100000 ∧ ∀ r ∈ rows, r.length ≤ 100000
theorem Small.at {rows : List (List Int)} (h : Small rows) (k : Nat) : (rows.getD k []).length ≤ 100000 := by
  rw [List.getD_eq_getElem?_getD]
  rcases Nat.lt_or_ge k rows.length with h1 | h1
  · simp [h1, h.2]
  · simp [h1]
set_option maxHeartbeats 2000000 in
theorem equal2_any (A A' : Option Addr) (n c n' c' : Nat) (l l' : List (List Int)) (w : World) (rd : RdRows w A n l) (rd' : RdRows w A' n' l') (hs : Small l) (hs' : Small l') :
    Calls Try.prog 13 #[.slice A n c, .slice A' n' c'] w fun e w' => e = .returned (.bool (decide (l = l'))) ∧ Below w.heap.size w w' := by
  have hn : n ≤ 100000 := by have := rd.1; have := hs.1; omega
  have hn' : n' ≤ 100000 := by have := rd'.1; have := hs'.1; omega
  have HS := Lib.hid (And.intro hs hs')
  by_cases hnn : n = n'
  · subst hnn
    have RD := Lib.hid rd
    have RD' := Lib.hid rd'
    clear rd rd' hs hs'
    go_enter Try.func13, Try.ntmps13
    go_wp2
    go_loopw [5] (fun i wr => ∃ k : Nat, k ≤ n ∧ i = .int .i64 k ∧ Hid (l.take k = l'.take k) ∧ Below w.heap.size w wr) (fun i _ => n - (intOf i).toNat)
    case atStart => exact ⟨0, by omega, rfl, rfl, Below.refl _ _⟩
    case round =>
      obtain ⟨k, hk, rfl, hT, hB⟩ := hrel
      by_cases hlt : k < n
      · have R1 := RD.out.step hB
        have R2 := RD'.out.step hB
        obtain ⟨b, o, A1, c1, rfl, hb, hcell, rd1⟩ := R1.open hlt
        obtain ⟨b', o', A2, c2, rfl, hb', hcell', rd2⟩ := R2.open hlt
        have hl1 := HS.out.1.at k
        have hl2 := HS.out.2.at k
        have E0 := Lib.hid (show l.getD k [] = l'.getD k [] → l.take (k + 1) = l'.take (k + 1) from fun he => take_eq_succ2 hT.out (by have := R1.1; omega) (by have := R2.1; omega) [] he)
        have E2 := Lib.hid (show ¬ l.getD k [] = l'.getD k [] → decide (l = l') = false from fun he => by
          rw [decide_eq_false_iff_not]
          intro e
          subst e
          exact he rfl)
        clear R1 R2
        have RD1 := Lib.hid rd1
        have RD2 := Lib.hid rd2
        clear rd1 rd2
        generalize l.getD k [] = r1 at *
        generalize l'.getD k [] = r2 at *
        by_cases he : r1 = r2
        · have hd : decide (r1 = r2) = true := by simpa using he
          have E1 := Lib.hid (E0.out he)
          clear he E0 E2
          go_wp2_with fail
          go_region_held3 (fun w' => (∀ b o, b < wr.heap.size → w'.cell? ⟨b, o, none⟩ = wr.cell? ⟨b, o, none⟩) ∧ Below wr.heap.size wr w') (first | exact still_call (by assumption) (by assumption) | exact still_drew0 _ | exact still_drew (by assumption) | exact still_alloc (by assumption) _ | exact still_of (by (repeat (first | (with_reducible exact Below.refl _ _) | (with_reducible assumption) | (with_reducible refine b_drew ?_) | (with_reducible refine b_drewN ?_ _) | (with_reducible refine b_alloc ?_ _) | ((with_reducible refine b_set ?_ ?_ _); rotate_left; (focus (first | omega | (simp; done) | (simp; omega) | (simp at *; omega)))) | (with_reducible refine b_call ?_ (by with_reducible assumption)))))) (first
            | (go_at_call 19; refine (sameints_any A1 A2 _ c1 _ c2 r1 r2 _ (rd_step RD1.out (by (repeat (first | (with_reducible exact Below.refl _ _) | (with_reducible assumption) | (with_reducible refine b_drew ?_) | (with_reducible refine b_drewN ?_ _) | (with_reducible refine b_alloc ?_ _) | ((with_reducible refine b_set ?_ ?_ _); rotate_left; (focus (first | omega | (simp; done) | (simp; omega) | (simp at *; omega)))) | (with_reducible refine b_call ?_ (by with_reducible assumption)))))) (rd_step RD2.out (by (repeat (first | (with_reducible exact Below.refl _ _) | (with_reducible assumption) | (with_reducible refine b_drew ?_) | (with_reducible refine b_drewN ?_ _) | (with_reducible refine b_alloc ?_ _) | ((with_reducible refine b_set ?_ ?_ _); rotate_left; (focus (first | omega | (simp; done) | (simp; omega) | (simp at *; omega)))) | (with_reducible refine b_call ?_ (by with_reducible assumption)))))) (by omega) (by omega)).mono ?_; rintro e w5 ⟨rfl, hb5⟩))
          go_wp2
          go_roundw
          case rel => exact ⟨k + 1, by omega, by go_num, E1, hB.trans ((b_call (b_drew (Below.refl _ _)) hb5).mono hB.size)⟩
          case measure => simp [intOf]; omega
        · have hd : decide (r1 = r2) = false := by simpa using he
          have E1 := Lib.hid (E2.out he)
          clear he E0 E2
          go_wp2_with fail
          go_region_held3 (fun w' => (∀ b o, b < wr.heap.size → w'.cell? ⟨b, o, none⟩ = wr.cell? ⟨b, o, none⟩) ∧ Below wr.heap.size wr w') (first | exact still_call (by assumption) (by assumption) | exact still_drew0 _ | exact still_drew (by assumption) | exact still_alloc (by assumption) _ | exact still_of (by (repeat (first | (with_reducible exact Below.refl _ _) | (with_reducible assumption) | (with_reducible refine b_drew ?_) | (with_reducible refine b_drewN ?_ _) | (with_reducible refine b_alloc ?_ _) | ((with_reducible refine b_set ?_ ?_ _); rotate_left; (focus (first | omega | (simp; done) | (simp; omega) | (simp at *; omega)))) | (with_reducible refine b_call ?_ (by with_reducible assumption)))))) (first
            | (go_at_call 19; refine (sameints_any A1 A2 _ c1 _ c2 r1 r2 _ (rd_step RD1.out (by (repeat (first | (with_reducible exact Below.refl _ _) | (with_reducible assumption) | (with_reducible refine b_drew ?_) | (with_reducible refine b_drewN ?_ _) | (with_reducible refine b_alloc ?_ _) | ((with_reducible refine b_set ?_ ?_ _); rotate_left; (focus (first | omega | (simp; done) | (simp; omega) | (simp at *; omega)))) | (with_reducible refine b_call ?_ (by with_reducible assumption)))))) (rd_step RD2.out (by (repeat (first | (with_reducible exact Below.refl _ _) | (with_reducible assumption) | (with_reducible refine b_drew ?_) | (with_reducible refine b_drewN ?_ _) | (with_reducible refine b_alloc ?_ _) | ((with_reducible refine b_set ?_ ?_ _); rotate_left; (focus (first | omega | (simp; done) | (simp; omega) | (simp at *; omega)))) | (with_reducible refine b_call ?_ (by with_reducible assumption)))))) (by omega) (by omega)).mono ?_; rintro e w5 ⟨rfl, hb5⟩))
          go_wp2
          go_ret
          exact ⟨ret_bool (by rw [E1.out]), hB.trans ((b_call (b_drew (Below.refl _ _)) hb5).mono hB.size)⟩
      · have E1 := Lib.hid (show decide (l = l') = true from by
          rw [decide_eq_true_iff]
          have h := hT.out
          have h1 := RD.out.1
          have h2 := RD'.out.1
          rw [List.take_of_length_le (by omega), List.take_of_length_le (by omega)] at h
          exact h)
        go_wp2
        go_ret
        exact ⟨ret_bool (by rw [E1.out]), hB⟩
  · have E1 := Lib.hid (show decide (l = l') = false from by
      rw [decide_eq_false_iff_not]
      intro e
      subst e
      exact hnn (rd.1.trans rd'.1.symm))
    have hq : ((n : Int) != (n' : Int)) = true := by
      rw [bne_iff_ne]
      omega
    clear hnn rd rd'
    go_enter Try.func13, Try.ntmps13
    go_wp2
    go_ret
    exact ⟨ret_bool (by rw [E1.out]), Below.refl _ _⟩

theorem slRows : SlT Try.prog 27 22 1 24 := .mk' (z := .slice none 0 0) Try.underlying27 (by kernel_rfl) rfl (by omega)
theorem int_ne_sl : (3 : TypeId) ≠ 22 := by decide
theorem groups_small {f : Nat → Nat} {n : Nat} (hn : n ≤ 10000) : Small (groupsI f n) := by
  refine ⟨?_, fun r hr => ?_⟩
  · have := heads_len f n
    simp [groupsI, groupsU]
    omega
  · simp only [groupsI, groupsU, List.map_map, List.mem_map] at hr
    obtain ⟨x, _, rfl⟩ := hr
    have := memb_len f n x
    simp [intsI]
    omega
theorem groupsI_len (f : Nat → Nat) (n : Nat) : (groupsI f n).length = (heads f n).length := by simp [groupsI, groupsU]
/-- Whether a set was met before. -/
theorem done_iff {s : List Int} {f : Nat → Nat} (hR : RelU s f) (hP : Part f) {k : Nat} (hk : k < s.length) : s.getD k 0 ∈ (heads f k).map (fun r => s.getD r 0) ↔ ¬ f k = k := by
  constructor
  · intro h
    obtain ⟨r, hr, he⟩ := List.mem_map.1 h
    obtain ⟨h1, h2⟩ := mem_heads.1 hr
    have := (hR r k (by omega) hk).1 he
    omega
  · intro h
    have h1 := hP.le k
    refine List.mem_map.2 ⟨f k, mem_heads.2 ⟨by omega, hP.idem k⟩, ?_⟩
    exact (hR (f k) k (by omega) hk).2 (hP.idem k)
end Go.Proofs.Ytjmhibjkbnbefaa
