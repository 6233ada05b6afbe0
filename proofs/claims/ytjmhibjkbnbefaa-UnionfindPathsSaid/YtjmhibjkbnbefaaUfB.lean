/-
  WHAT IS PROVED HERE: the contracts of the reference's New, in, Same, Union and of the helper Has. No condition but bounds that every machine's lengths meet.
-/
import Derived.Test.YtjmhibjkbnbefaaUfA
import Derived.Test.YtjmhibjkbnbefaaHlpS
namespace Go.Proofs.Ytjmhibjkbnbefaa
set_option linter.unusedVariables false
open Go.ChangeShapes Go.WideShapes Go.ChangeAt Go.RowKit

theorem slInts : SlT Try.prog 22 3 1 8 := .mk' (z := .int .i64 0) Try.underlying22 (by kernel_rfl) rfl (by omega)
theorem newS_succ (k : Nat) : newS (k + 1) = newS k ++ [(k : Int)] := by simp [newS, List.range_succ]

set_option maxHeartbeats 1000000 in
theorem refnew_any (n : Nat) (w : World) (hn : n ≤ 10000) : Calls Try.prog 23 #[.int .i64 (n : Int)] w (RetSl w 3 1 n ((newS n).map (Value.int .i64))) := by
  go_enter Try.func23, Try.ntmps23
  go_wp2
  go_loopw [3, 4] (fun v i wr => ∃ (k : Nat) (A' : Option Addr) (c' : Nat), k ≤ n ∧ i = .int .i64 k ∧ v = .slice A' k c' ∧ wr.ownsRow w.heap.size 3 1 (.slice A' k c') k ((newS k).map (Value.int .i64)) ∧ k ≤ c' ∧ c' ≤ maxLen ∧ Below w.heap.size w wr) (fun _ i _ => n - (intOf i).toNat)
  case atStart => exact ⟨0, none, 0, by omega, rfl, rfl, own_nil _ _ _ _, by omega, by simp [maxLen], Below.refl _ _⟩
  case round =>
    obtain ⟨k, A', c', hk, rfl, rfl, hown, hc3, hc4, hB⟩ := hrel
    have OW := Lib.hid hown
    clear hown
    have hz1 := hB.size
    by_cases hlt : k < n
    · go_wp2_with (at_builtin; refine wpList_app _ rfl (.tmp 10) (.tmp 12) slInts rfl rfl (OW.out.alloc _) rfl (rd_lit _ _ _ rfl rfl) (by intro u hu; simp at hu; subst hu; rfl) (k + 1) rfl (by unfold maxLen; omega) (by omega) (by simp; omega) ?_; intro A2 c2 w2 g1 g2 g3 g4 _)
      go_roundw
      case rel => exact ⟨k + 1, A2, c2, by omega, by go_num, rfl, by rw [newS_succ, List.map_append]; exact g3, g1, g2, below_app (b_alloc hB _) (OW.out.alloc _) g4 (Nat.le_refl _) (by simp; omega)⟩
      case measure => simp [intOf]; omega
    · obtain rfl : n = k := by omega
      go_wp2
      go_ret
      exact ⟨A', c', rfl, hc3, hc4, OW.out, hB⟩

theorem refin_any (A : Option Addr) (n c : Nat) (a : Int) (w : World) (hn : n ≤ 10000) :
    Calls Try.prog 30 #[.slice A n c, .int .i64 a] w fun e w' => e = .returned (.bool (inR n a)) ∧ w = w' := by
  by_cases h0 : 0 ≤ a
  · go_enter Try.func30, Try.ntmps30
    go_wp2
    go_ret
    exact ⟨ret_bool (by unfold inR; simp [h0]), rfl⟩
  · have hd : decide (0 ≤ a) = false := by simpa using h0
    go_enter Try.func30, Try.ntmps30
    go_wp2
    go_ret
    exact ⟨ret_bool (by unfold inR; simp; omega), rfl⟩

theorem rd_at {w : World} {B n : Nat} {A : Option Addr} {l : List Int} (h : Rd w B 1 A n (l.map (Value.int .i64))) {k : Nat} (hk : k < n) : ∃ b o, A = some ⟨b, o, none⟩ ∧ b < B ∧ w.cell? ⟨b, o + k, none⟩ = some (.int .i64 (l.getD k 0)) := by
  obtain ⟨b, o, hl, e, hb, hc⟩ := h.openMap hk
  exact ⟨b, o, e, hb, by rw [hc]; simp [List.getD_eq_getElem?_getD, hl]⟩
theorem rd_at0 {w : World} {B n : Nat} {b o : Nat} {l : List Int} (h : Rd w B 1 (some ⟨b, o, none⟩) n (l.map (Value.int .i64))) {k : Nat} (hk : k < n) : w.cell? ⟨b, o + k, none⟩ = some (.int .i64 (l.getD k 0)) := by
  obtain ⟨b', o', e, hb, hc⟩ := rd_at h hk
  injection e with e
  injection e with e1 e2
  subst e1 e2
  exact hc

set_option maxHeartbeats 1000000 in
theorem refsame_any (A : Option Addr) (n c : Nat) (s : List Int) (f : Nat → Nat) (a b : Int) (w : World) (hn : n ≤ 10000) (hs : s.length = n) (hR : RelU s f) (rd : Rd w w.heap.size 1 A n (s.map (Value.int .i64))) :
    Calls Try.prog 27 #[.slice A n c, .int .i64 a, .int .i64 b] w fun e w' => e = .returned (.bool (sameU n f a b)) ∧ Below w.heap.size w w' := by
  subst hs
  by_cases ha : inR s.length a = true
  · by_cases hb : inR s.length b = true
    · have la := in_lt ha
      have lb := in_lt hb
      obtain ⟨bb, oo, rfl, hbb, hca⟩ := rd_at rd la
      have hcb := rd_at0 rd lb
      have HR := Lib.hid (rel_same hR ha hb)
      have E1 := Lib.hid (show sameU s.length f a b = decide (f a.toNat = f b.toNat) from by unfold sameU; rw [ha, hb]; rfl)
      have ha' : 0 ≤ a ∧ a < s.length := by simpa [inR] using ha
      have hb' : 0 ≤ b ∧ b < s.length := by simpa [inR] using hb
      clear rd hR
      go_enter Try.func27, Try.ntmps27
      go_wp2_with (go_at_call 30; refine (refin_any _ _ _ _ _ hn).mono ?_; rintro e w_ ⟨rfl, rfl⟩)
      go_quiet (fail)
      go_wp2
      go_ret
      exact ⟨ret_bool (by rw [E1.out, Bool.eq_iff_iff]; have h := HR.out; simp [la, lb] at h ⊢; exact h), below_drewN (Below.refl _ _) _⟩
    · have hb2 : inR s.length b = false := by simpa using hb
      have E1 := Lib.hid (show sameU s.length f a b = false from by unfold sameU; rw [hb2]; simp)
      clear hb
      go_enter Try.func27, Try.ntmps27
      go_wp2_with (go_at_call 30; refine (refin_any _ _ _ _ _ hn).mono ?_; rintro e w_ ⟨rfl, rfl⟩)
      go_ret
      exact ⟨ret_bool (by rw [E1.out]), Below.refl _ _⟩
  · have ha2 : inR s.length a = false := by simpa using ha
    have E1 := Lib.hid (show sameU s.length f a b = false from by unfold sameU; rw [ha2]; simp)
    clear ha
    go_enter Try.func27, Try.ntmps27
    go_wp2_with (go_at_call 30; refine (refin_any _ _ _ _ _ hn).mono ?_; rintro e w_ ⟨rfl, rfl⟩)
    go_ret
    exact ⟨ret_bool (by rw [E1.out]), Below.refl _ _⟩

/-- A slice that reads so and a truth value come back; old memory is as it was. -/
def RetU (w : World) (n : Nat) (s : List Int) (q : Bool) (A0 : Option Addr) (e : Ending) (w' : World) : Prop :=
  ∃ A c, e = .returned (.tuple #[.slice A n c, .bool q]) ∧ Rd w' w'.heap.size 1 A n (s.map (Value.int .i64)) ∧ (A = A0 ∨ ∀ ad, A = some ad → w.heap.size ≤ ad.block) ∧ Below w.heap.size w w'
theorem own_blk {w : World} {base : Nat} {e : TypeId} {sz n c : Nat} {A : Option Addr} {xs : List Value} (h : w.ownsRow base e sz (.slice A n c) n xs) : ∀ ad, A = some ad → base ≤ ad.block ∧ ad.block < w.heap.size := by
  intro ad he
  subst he
  rcases h.2 with ⟨h1, _⟩ | ⟨g, cap, cur, h1, h2, h3, _⟩
  · cases h1
  · injection h1 with h1
    injection h1 with h1
    subst h1
    refine ⟨h2, ?_⟩
    rcases Nat.lt_or_ge g w.heap.size with h5 | h5
    · exact h5
    · rw [Array.getElem?_eq_none h5] at h3; cases h3
theorem map_take_snoc {α β : Type} (g : α → β) {l : List α} {k : Nat} (h : k < l.length) (d : α) : (l.map g).take (k + 1) = (l.map g).take k ++ [g (l.getD k d)] := by
  rw [List.take_succ_eq_append_getElem (by simpa using h)]
  simp [List.getD_eq_getElem?_getD, h]

set_option maxHeartbeats 2000000 in
theorem refunion_any (A : Option Addr) (n c : Nat) (s : List Int) (f : Nat → Nat) (a b : Int) (w : World) (hn : n ≤ 10000) (hs : s.length = n) (hR : RelU s f) (rd : Rd w w.heap.size 1 A n (s.map (Value.int .i64))) :
    Calls Try.prog 24 #[.slice A n c, .int .i64 a, .int .i64 b] w (RetU w n (uniS s a b) (uniB n f a b) A) := by
  subst hs
  by_cases ha : inR s.length a = true
  · by_cases hb : inR s.length b = true
    · have la := in_lt ha
      have lb := in_lt hb
      obtain ⟨bb, oo, rfl, hbb, hca⟩ := rd_at rd la
      have hcb := rd_at0 rd lb
      have HR := rel_same hR ha hb
      have ha' : 0 ≤ a ∧ a < s.length := by simpa [inR] using ha
      have hb' : 0 ≤ b ∧ b < s.length := by simpa [inR] using hb
      have EU := Lib.hid (show uniS s a b = if decide (s.getD a.toNat 0 = s.getD b.toNat 0) = true then s else s.map (fun v => if v = s.getD b.toNat 0 then s.getD a.toNat 0 else v) from by
        unfold uniS
        rw [ha, hb]
        by_cases h : s.getD a.toNat 0 = s.getD b.toNat 0
        · rw [if_neg (by simp only [h]; simp), if_pos (by simp only [h]; simp)]
        · rw [if_pos (by simp only [h]; simp), if_neg (by simp only [h]; simp)])
      have EB := Lib.hid (show uniB s.length f a b = !decide (s.getD a.toNat 0 = s.getD b.toNat 0) from by
        unfold uniB
        rw [ha, hb, show decide (f a.toNat = f b.toNat) = decide (s.getD a.toNat 0 = s.getD b.toNat 0) from by rw [decide_eq_decide]; exact HR.symm]
        rfl)
      clear hR HR
      have RD := Lib.hid rd
      clear rd
      obtain ⟨x, hx⟩ : ∃ x, s.getD a.toNat 0 = x := ⟨_, rfl⟩
      obtain ⟨y, hy⟩ : ∃ y, s.getD b.toNat 0 = y := ⟨_, rfl⟩
      rw [hx] at hca
      rw [hy] at hcb
      rw [hx, hy] at EU EB
      clear hx hy
      by_cases hxy : x = y
      · have hq : (x == y) = true := by simpa using hxy
        have hd : decide (x = y) = true := by simpa using hxy
        rw [hd] at EU EB
        clear hd hxy
        go_enter Try.func24, Try.ntmps24
        go_wp2_with (go_at_call 30; refine (refin_any _ _ _ _ _ hn).mono ?_; rintro e w_ ⟨rfl, rfl⟩)
        go_ret2
        exact ⟨_, _, by rw [EB.out]; rfl, by rw [EU.out]; exact RD.out, .inl rfl, Below.refl _ _⟩
      · have hq : (x == y) = false := by simpa using hxy
        have hd : decide (x = y) = false := by simpa using hxy
        rw [hd] at EU EB
        clear hd hxy
        go_enter Try.func24, Try.ntmps24
        go_wp2_with (go_at_call 30; refine (refin_any _ _ _ _ _ hn).mono ?_; rintro e w_ ⟨rfl, rfl⟩)
        go_loopw [10, 11] (fun v i wr => ∃ (k : Nat) (A' : Option Addr) (c' : Nat), k ≤ s.length ∧ i = .int .i64 k ∧ v = .slice A' k c' ∧ wr.ownsRow w.heap.size 3 1 (.slice A' k c') k (((s.map fun v => if v = y then x else v).take k).map (Value.int .i64)) ∧ k ≤ c' ∧ c' ≤ maxLen ∧ Below w.heap.size w wr) (fun _ i _ => s.length - (intOf i).toNat)
        case atStart => exact ⟨0, none, 0, by omega, rfl, rfl, own_nil _ _ _ _, by omega, by simp [maxLen], Below.refl _ _⟩
        case round =>
          obtain ⟨k, A', c', hk, rfl, rfl, hown, hc3, hc4, hB⟩ := hrel
          have OW := Lib.hid hown
          clear hown
          have hz1 := hB.size
          by_cases hlt : k < s.length
          · have hck := rd_at0 (RD.out.below hB (Nat.le_refl _)) hlt
            have ES := Lib.hid (map_take_snoc (fun v => if v = y then x else v) hlt 0)
            obtain ⟨v, hv⟩ : ∃ v, s.getD k 0 = v := ⟨_, rfl⟩
            rw [hv] at hck ES
            clear hv
            by_cases hvy : v = y
            · have hq2 : (v == y) = true := by simpa using hvy
              have EV := Lib.hid (show (if v = y then x else v) = x from if_pos hvy)
              clear hvy
              go_wp2_with (at_builtin; refine wpList_app _ rfl (.tmp 50) (.tmp 52) slInts rfl rfl (OW.out.alloc _) rfl (rd_lit _ _ _ rfl rfl) (by intro u hu; simp at hu; subst hu; rfl) (k + 1) rfl (by unfold maxLen; omega) (by omega) (by simp; omega) ?_; intro A2 c2 w2 g1 g2 g3 g4 _)
              go_roundw
              case rel => exact ⟨k + 1, A2, c2, by omega, by go_num, rfl, by rw [ES.out, List.map_append, EV.out]; exact g3, g1, g2, below_app (b_alloc hB _) (OW.out.alloc _) g4 (Nat.le_refl _) (by simp; omega)⟩
              case measure => simp [intOf]; omega
            · have hq2 : (v == y) = false := by simpa using hvy
              have EV := Lib.hid (show (if v = y then x else v) = v from if_neg hvy)
              clear hvy
              go_wp2_with (at_builtin; refine wpList_app _ rfl (.tmp 50) (.tmp 52) slInts rfl rfl (OW.out.alloc _) rfl (rd_lit _ _ _ rfl rfl) (by intro u hu; simp at hu; subst hu; rfl) (k + 1) rfl (by unfold maxLen; omega) (by omega) (by simp; omega) ?_; intro A2 c2 w2 g1 g2 g3 g4 _)
              go_roundw
              case rel => exact ⟨k + 1, A2, c2, by omega, by go_num, rfl, by rw [ES.out, List.map_append, EV.out]; exact g3, g1, g2, below_app (b_alloc hB _) (OW.out.alloc _) g4 (Nat.le_refl _) (by simp; omega)⟩
              case measure => simp [intOf]; omega
          · obtain rfl : k = s.length := by omega
            have EF := Lib.hid (show (s.map fun v => if v = y then x else v).take s.length = s.map fun v => if v = y then x else v from by rw [List.take_of_length_le (by simp)])
            go_wp2
            go_ret2
            exact ⟨A', c', by rw [EB.out]; rfl, by rw [EU.out, if_neg (by simp), ← EF.out]; exact rd_own OW.out, .inr fun ad h => (own_blk OW.out ad h).1, hB⟩
    · have hb2 : inR s.length b = false := by simpa using hb
      have E1 := Lib.hid (show uniB s.length f a b = false ∧ uniS s a b = s from by unfold uniB uniS; rw [hb2]; simp)
      have RD := Lib.hid rd
      clear hb rd
      go_enter Try.func24, Try.ntmps24
      go_wp2_with (go_at_call 30; refine (refin_any _ _ _ _ _ hn).mono ?_; rintro e w_ ⟨rfl, rfl⟩)
      go_ret2
      exact ⟨_, _, by rw [E1.out.1]; rfl, by rw [E1.out.2]; exact RD.out, .inl rfl, Below.refl _ _⟩
  · have ha2 : inR s.length a = false := by simpa using ha
    have E1 := Lib.hid (show uniB s.length f a b = false ∧ uniS s a b = s from by unfold uniB uniS; rw [ha2]; simp)
    have RD := Lib.hid rd
    clear ha rd
    go_enter Try.func24, Try.ntmps24
    go_wp2_with (go_at_call 30; refine (refin_any _ _ _ _ _ hn).mono ?_; rintro e w_ ⟨rfl, rfl⟩)
    go_ret2
    exact ⟨_, _, by rw [E1.out.1]; rfl, by rw [E1.out.2]; exact RD.out, .inl rfl, Below.refl _ _⟩

set_option maxHeartbeats 1000000 in
theorem has_any (A : Option Addr) (n c : Nat) (l : List Int) (x : Int) (w : World) (hn : n ≤ 1000000000000) (rd : Rd w w.heap.size 1 A n (l.map (Value.int .i64))) :
    Calls Try.prog 18 #[.slice A n c, .int .i64 x] w fun e w' => e = .returned (.bool (decide (x ∈ l))) ∧ w = w' := by
  have hll : l.length = n := by have := rd.1; simpa using this
  have RD := Lib.hid rd
  have HL := Lib.hid hll
  clear rd hll
  go_enter Try.func18, Try.ntmps18
  go_wp2
  go_loop [5] (fun i => ∃ k : Nat, k ≤ n ∧ i = .int .i64 k ∧ Hid (¬ x ∈ l.take k)) (fun i => n - (intOf i).toNat)
  case atStart => exact ⟨0, by omega, rfl, Lib.hid (by simp)⟩
  case round =>
    obtain ⟨k, hk, rfl, hT⟩ := hrel
    by_cases hlt : k < n
    · obtain ⟨b, o, hl, rfl, hb, hcell⟩ := RD.out.openMap hlt
      by_cases he : l[k] = x
      · have hq : (l[k] == x) = true := by simpa using he
        have E1 := Lib.hid (show decide (x ∈ l) = true from by rw [decide_eq_true_iff, ← he]; exact List.getElem_mem hl)
        clear he
        go_wp2
        go_ret
        exact ⟨ret_bool (by rw [E1.out]), rfl⟩
      · have hq : (l[k] == x) = false := by simpa using he
        have E1 := Lib.hid (show ¬ x ∈ l.take (k + 1) from by
          rw [List.take_succ_eq_append_getElem hl]
          intro h
          rcases List.mem_append.1 h with h | h
          · exact hT.out h
          · simp at h
            exact he h.symm)
        clear he
        go_wp2
        go_round
        case rel => exact ⟨k + 1, by omega, by go_num, E1⟩
        case measure => simp [intOf]; omega
    · have E1 := Lib.hid (show decide (x ∈ l) = false from by
        rw [decide_eq_false_iff_not]
        have := hT.out
        rwa [List.take_of_length_le (by rw [HL.out]; omega)] at this)
      go_wp2
      go_ret
      exact ⟨ret_bool (by rw [E1.out]), rfl⟩
theorem has_is (A : Option Addr) (n c : Nat) (l : List Int) (x : Int) (w : World) (q : Bool) (hn : n ≤ 1000000000000) (rd : Rd w w.heap.size 1 A n (l.map (Value.int .i64))) (hq : decide (x ∈ l) = q) :
    Calls Try.prog 18 #[.slice A n c, .int .i64 x] w fun e w' => e = .returned (.bool q) ∧ w = w' := by
  subst hq
  exact has_any A n c l x w hn rd
end Go.Proofs.Ytjmhibjkbnbefaa
