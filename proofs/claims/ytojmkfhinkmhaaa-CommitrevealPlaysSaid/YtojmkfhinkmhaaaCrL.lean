/-
  WHAT IS PROVED HERE: the contract of the reference's Acts: some calls come back, each within its bounds. No condition but that the numbers are a machine's.
-/
import Derived.Test.YtojmkfhinkmhaaaCrJ
namespace Go.Proofs.Ytojmkfhinkmhaaa
set_option linter.unusedVariables false
open Go.ChangeShapes Go.WideShapes Go.ChangeAt Go.RowKit

/-- A call: what it does, the player, the input, the nonce. -/
structure ActV where
  d : Int
  p : Int
  x : Inp
  n : Int
/-- what every call of the generator meets -/
structure ActG (a : ActV) : Prop where
  hd : a.d = 0 ∨ a.d = 1 ∨ a.d = 2
  hp : -1 ≤ a.p ∧ a.p ≤ 4
  hn : 0 ≤ a.n ∧ a.n ≤ 1
  hx : Val a.x ∨ ¬ Val a.x
def actC (a : ActV) : List Value := [.int .i64 a.d, .int .i64 a.p, .int .i64 a.x.1, .int .i64 a.x.2.1, .int .i64 a.x.2.2, .int .u64 a.n]
def actsC (l : List ActV) : List Value := l.flatMap actC
theorem actC_len (a : ActV) : (actC a).length = 6 := rfl
theorem actsC_len (l : List ActV) : (actsC l).length = l.length * 6 := by
  induction l with
  | nil => rfl
  | cons a l ih => rw [actsC, List.flatMap_cons, List.length_append, ← actsC, ih, actC_len, List.length_cons]; omega
theorem actsC_snoc (l : List ActV) (a : ActV) : actsC (l ++ [a]) = actsC l ++ actC a := by simp [actsC]
theorem actC_cell (a : ActV) : ∀ u ∈ actC a, u.oneCell' = true := by
  intro u hu
  simp [actC] at hu
  rcases hu with rfl | rfl | rfl | rfl | rfl | rfl <;> rfl
theorem actsC_get {l : List ActV} {k : Nat} (h : k < l.length) {j : Nat} (hj : j < 6) : (actsC l)[k * 6 + j]? = (actC l[k])[j]? := by
  induction l generalizing k with
  | nil => simp at h
  | cons a l ih =>
    have hf : actsC (a :: l) = actC a ++ actsC l := by rw [actsC, List.flatMap_cons, ← actsC]
    rw [hf]
    rcases k with _ | k
    · rw [Nat.zero_mul, Nat.zero_add, List.getElem?_append_left (by rw [actC_len]; exact hj)]
      rfl
    · rw [List.getElem?_append_right (by rw [actC_len]; omega), actC_len, show (k + 1) * 6 + j - 6 = k * 6 + j from by omega, ih (by simpa using h)]
      rfl
theorem slActs : SlT Try.prog 45 49 6 48 := .mk' (z := .agg #[.int .i64 0, .int .i64 0, .int .i64 0, .int .i64 0, .int .i64 0, .int .u64 0]) Try.underlying45 (by kernel_rfl) rfl (by omega)
theorem Rd.openAct {w : World} {B n k : Nat} {A : Option Addr} {l : List ActV} (h : Rd w B 6 A n (actsC l)) (hk : k < n) :
    ∃ b o, ∃ hl : k < l.length, A = some ⟨b, o, none⟩ ∧ b < B ∧ w.cell? ⟨b, o + k * 6, none⟩ = some (.int .i64 l[k].d) ∧ w.cell? ⟨b, o + k * 6 + 1, none⟩ = some (.int .i64 l[k].p) ∧ w.cell? ⟨b, o + k * 6 + 2, none⟩ = some (.int .i64 l[k].x.1) ∧ w.cell? ⟨b, o + k * 6 + 3, none⟩ = some (.int .i64 l[k].x.2.1) ∧ w.cell? ⟨b, o + k * 6 + 4, none⟩ = some (.int .i64 l[k].x.2.2) ∧ w.cell? ⟨b, o + k * 6 + 5, none⟩ = some (.int .u64 l[k].n) := by
  have hn : l.length = n := by
    have := h.1
    rw [actsC_len] at this
    omega
  have hl : k < l.length := by omega
  obtain ⟨b, o, e, hb, hc⟩ := h.2 (by
    intro e
    have := actsC_len l
    rw [e] at this
    simp at this
    omega)
  exact ⟨b, o, hl, e, hb, hc (k * 6) _ (actsC_get hl (j := 0) (by omega)), hc (k * 6 + 1) _ (actsC_get hl (j := 1) (by omega)), hc (k * 6 + 2) _ (actsC_get hl (j := 2) (by omega)), hc (k * 6 + 3) _ (actsC_get hl (j := 3) (by omega)), hc (k * 6 + 4) _ (actsC_get hl (j := 4) (by omega)), hc (k * 6 + 5) _ (actsC_get hl (j := 5) (by omega))⟩

theorem do_lit {r : Nat} (h : r < 8) : ∃ d : Int, ([Value.int .i64 0, .int .i64 0, .int .i64 0, .int .i64 1, .int .i64 1, .int .i64 1, .int .i64 0, .int .i64 1] : List Value)[r]'(by simpa using h) = .int .i64 d ∧ (d = 0 ∨ d = 1) := by
  have hc : r = 0 ∨ r = 1 ∨ r = 2 ∨ r = 3 ∨ r = 4 ∨ r = 5 ∨ r = 6 ∨ r = 7 := by omega
  rcases hc with rfl | rfl | rfl | rfl | rfl | rfl | rfl | rfl
  · exact ⟨0, rfl, .inl rfl⟩
  · exact ⟨0, rfl, .inl rfl⟩
  · exact ⟨0, rfl, .inl rfl⟩
  · exact ⟨1, rfl, .inr rfl⟩
  · exact ⟨1, rfl, .inr rfl⟩
  · exact ⟨1, rfl, .inr rfl⟩
  · exact ⟨0, rfl, .inl rfl⟩
  · exact ⟨1, rfl, .inr rfl⟩
/-- The calls come back in new memory. -/
def RetActs (w : World) (e : Ending) (w' : World) : Prop :=
  ∃ (L : List ActV) (A : Option Addr) (c : Nat), e = .returned (.slice A L.length c) ∧ L.length ≤ 24 ∧ (∀ a ∈ L, ActG a) ∧ w'.ownsRow w.heap.size 49 6 (.slice A L.length c) L.length (actsC L) ∧ Below w.heap.size w w'
set_option maxRecDepth 100000 in
set_option maxHeartbeats 2000000 in
theorem acts_any (A : Option Addr) (n c : Nat) (l : List Int) (w : World) (rd : Rd w w.heap.size 1 A n (l.map (Value.int .i64))) (h64 : ∀ x ∈ l, -9223372036854775808 ≤ x ∧ x ≤ 9223372036854775807) (hn : n ≤ 9223372036854775807) :
    Calls Try.prog 22 #[.slice A n c] w (RetActs w) := by
  have RD := Lib.hid rd
  have H64 := Lib.hid h64
  clear rd h64
  obtain ⟨m, hm⟩ : ∃ m, min n 24 = m := ⟨_, rfl⟩
  have hm1 : m ≤ n := by omega
  have hm2 : m ≤ 24 := by omega
  have hm3 : m = n ∨ m = 24 := by omega
  have HM3 := Lib.hid hm3
  clear hm hm3
  go_enter Try.func22, Try.ntmps22
  go_wp2
  go_loopw [3, 4] (fun s3 s4 wr => ∃ (i : Nat) (L : List ActV) (A1 : Option Addr) (c1 : Nat), i ≤ m ∧ s4 = .int .i64 i ∧ s3 = .slice A1 i c1 ∧ Hid (L.length = i) ∧ Hid (∀ a ∈ L, ActG a) ∧ Hid (wr.ownsRow w.heap.size 49 6 (.slice A1 i c1) i (actsC L)) ∧ Below w.heap.size w wr) (fun _ i _ => m - (intOf i).toNat)
  case atStart => exact ⟨0, [], none, 0, by omega, rfl, rfl, rfl, Lib.hid (by simp), Lib.hid (own_nil _ _ _ _), Below.refl _ _⟩
  case round =>
    obtain ⟨i, L, A1, c1, hi, rfl, rfl, HL, HG, HO, hB⟩ := hrel
    by_cases hlt : i < m
    · have d1 : decide (i < n) = true := decide_eq_true (by omega)
      have d2 : decide ((i : Int) < 24) = true := decide_eq_true (by omega)
      have d2' : decide (i < 24) = true := decide_eq_true (by omega)
      obtain ⟨b0, o0, hil, rfl, hb0, hcell⟩ := (RD.out.below hB (Nat.le_refl _)).openMap (k := i) (by omega)
      have hx64 := H64.out _ (List.getElem_mem hil)
      obtain ⟨v, hv⟩ : ∃ v, l[i] = v := ⟨_, rfl⟩
      rw [hv] at hcell hx64
      clear hv
      have hnb := around_bd v 1000000 (by omega)
      obtain ⟨N, hN⟩ : ∃ N, around v 1000000 = N := ⟨_, rfl⟩
      have HN := Lib.hid hN
      rw [hN] at hnb
      clear hN
      obtain ⟨r, hr, hr8⟩ : ∃ r : Nat, N % 8 = (r : Int) ∧ r < 8 := ⟨(N % 8).toNat, by omega, by omega⟩
      obtain ⟨dv, hdv, hd01⟩ := do_lit hr8
      have HD01 := Lib.hid hd01
      clear hd01
      obtain ⟨hx1, hx2⟩ := hx64
      obtain ⟨hn1, hn2⟩ := hnb
      go_wp2_with fail
      refine (around_any v 1000000 _ hx1 hx2 (by omega) (by omega)).mono ?_
      rintro e w_ ⟨rfl, rfl⟩
      rw [HN.out]
      go_upto_region 7 with (fail)
      refine name_world ?_
      intro X hX
      have hBX : Below wr.heap.size wr X := by rw [hX]; (repeat (first | (with_reducible exact Below.refl _ _) | (with_reducible assumption) | (with_reducible refine b_drew ?_) | (with_reducible refine b_drewN ?_ _) | (with_reducible refine b_alloc ?_ _) | ((with_reducible refine b_set ?_ ?_ _); rotate_left; (focus (first | omega | (simp; done) | (simp; omega) | (simp at *; omega)))) | (with_reducible refine b_call ?_ (by with_reducible assumption))))
      obtain ⟨g, hg⟩ : ∃ g, wr.heap.size + 1 = g := ⟨_, rfl⟩
      have V := Lib.hid (show Vr X g 49 #[.int .i64 dv, .int .i64 (N / 8 % 5 - N / 40 % 13 / 12), .int .i64 0, .int .i64 0, .int .i64 0, .int .u64 (N / 520 % 2)] from by rw [hX, ← hg]; exact vr_new1 wr _ _ _)
      have hgr : wr.heap.size ≤ g := by omega
      rw [hg]
      clear hX hg hdv hr hcell
      go_wp2_with fail
      refine (of_any (N / 1040 % 3) _ (by omega) (by omega)).mono ?_
      rintro e w3 ⟨rfl, hb3⟩
      have V3 := Lib.hid (V.out.call hb3)
      obtain ⟨v1, v2, v3⟩ := V3.out.facts
      obtain ⟨⟨a, b, c'⟩, hx⟩ : ∃ x, inpOf (N / 1040 % 3) = x := ⟨_, rfl⟩
      rw [hx]
      have HP := Lib.hid (show (-1 ≤ N / 8 % 5 - N / 40 % 13 / 12 ∧ N / 8 % 5 - N / 40 % 13 / 12 ≤ 4) ∧ (0 ≤ N / 520 % 2 ∧ N / 520 % 2 ≤ 1) from by omega)
      have HBX3 := b_call hBX hb3
      clear hx hb3 hBX V
      go_upto_if 47 with fail
      refine name_world ?_
      intro Y hY
      have V := Lib.hid (show Vr Y g 49 #[.int .i64 dv, .int .i64 (N / 8 % 5 - N / 40 % 13 / 12), .int .i64 a, .int .i64 b, .int .i64 c', .int .u64 (N / 520 % 2)] from by rw [hY]; simpa using ((V3.out.set 2 (.int .i64 a)).set 3 (.int .i64 b)).set 4 (.int .i64 c'))
      have HBY : Below wr.heap.size wr Y := by rw [hY]; exact b_set (b_set (b_set HBX3 hgr _) hgr _) hgr _
      clear hY v1 v2 v3 V3 HBX3
      go_cut [] from 48 to 49 (fun wx => ∃ dd : Int, (dd = 0 ∨ dd = 1 ∨ dd = 2) ∧ Hid (Vr wx g 49 #[.int .i64 dd, .int .i64 (N / 8 % 5 - N / 40 % 13 / 12), .int .i64 a, .int .i64 b, .int .i64 c', .int .u64 (N / 520 % 2)]) ∧ Below wr.heap.size wr wx)
      case first =>
        obtain ⟨v1, v2, v3⟩ := V.out.facts
        by_cases hc : N % 41 = 7
        · have q : (N % 41 == 7) = true := by rw [beq_iff_eq]; exact hc
          clear hc
          go_wp2
          go_meet
          case rel => exact ⟨2, .inr (.inr rfl), Lib.hid (by simpa using V.out.set 0 (.int .i64 2)), b_set HBY hgr _⟩
        · have q : (N % 41 == 7) = false := by rw [beq_eq_false_iff_ne]; exact hc
          clear hc
          go_wp2
          go_meet
          case rel => exact ⟨dv, by rcases HD01.out with h | h <;> simp [h], V, HBY⟩
      case' rest =>
        clear V HBY
      obtain ⟨dd, hdd, V, HBY⟩ := hcut
      have HDD := Lib.hid hdd
      clear hdd
      obtain ⟨X1, rfl⟩ : ∃ W : World, W = wc := ⟨_, rfl⟩
      go_upto_if 51 with fail
      go_cut [] from 52 to 54 (fun wx => ∃ cc : Int, Hid (Vr wx g 49 #[.int .i64 dd, .int .i64 (N / 8 % 5 - N / 40 % 13 / 12), .int .i64 a, .int .i64 b, .int .i64 cc, .int .u64 (N / 520 % 2)]) ∧ Below wr.heap.size wr wx)
      case first =>
        obtain ⟨v1, v2, v3⟩ := V.out.facts
        by_cases hc : N % 37 = 5
        · have q : (N % 37 == 5) = true := by rw [beq_iff_eq]; exact hc
          clear hc
          go_wp2
          go_meet
          case rel => exact ⟨9, Lib.hid (by simpa using V.out.set 4 (.int .i64 9)), b_set HBY hgr _⟩
        · have q : (N % 37 == 5) = false := by rw [beq_eq_false_iff_ne]; exact hc
          clear hc
          go_wp2
          go_meet
          case rel => exact ⟨c', V, HBY⟩
      case' rest =>
        clear V HBY
      obtain ⟨cc, V, HBY⟩ := hcut
      obtain ⟨X1, rfl⟩ : ∃ W : World, W = wc := ⟨_, rfl⟩
      have y0 : X1.cell? ⟨g, 0, none⟩ = some (.int .i64 dd) := V.out.cell 0
      have y1 : X1.cell? ⟨g, 1, none⟩ = some (.int .i64 (N / 8 % 5 - N / 40 % 13 / 12)) := V.out.cell 1
      have y2 : X1.cell? ⟨g, 2, none⟩ = some (.int .i64 a) := V.out.cell 2
      have y3 : X1.cell? ⟨g, 3, none⟩ = some (.int .i64 b) := V.out.cell 3
      have y4 : X1.cell? ⟨g, 4, none⟩ = some (.int .i64 cc) := V.out.cell 4
      have y5 : X1.cell? ⟨g, 5, none⟩ = some (.int .u64 (N / 520 % 2)) := V.out.cell 5
      have HBw : Below w.heap.size w X1 := b_call hB HBY
      have hsw := HBw.size
      generalize N / 8 % 5 - N / 40 % 13 / 12 = pp at *
      generalize N / 520 % 2 = nn at *
      have O1 := Lib.hid (own_below HO.out HBY)
      clear hn1 hn2 V HN hx1 hx2
      go_wp2_with (at_builtin; refine wpList_app _ rfl (.tmp 54) (.tmp 56) slActs rfl rfl (own_below O1.out (by (repeat (first | (with_reducible exact Below.refl _ _) | (with_reducible assumption) | (with_reducible refine b_drew ?_) | (with_reducible refine b_drewN ?_ _) | (with_reducible refine b_alloc ?_ _) | ((with_reducible refine b_set ?_ ?_ _); rotate_left; (focus (first | omega | (simp; done) | (simp; omega) | (simp at *; omega)))) | (with_reducible refine b_call ?_ (by with_reducible assumption)))))) rfl (rd_lit _ _ _ rfl rfl) (actC_cell ⟨dd, pp, (a, b, cc), nn⟩) (i + 1) rfl (by unfold maxLen; omega) (by omega) (by simp; omega) ?_; intro A5 c5 w5 g1 g2 g3 g4 g5)
      go_roundw
      case rel => exact ⟨i + 1, L ++ [⟨dd, pp, (a, b, cc), nn⟩], A5, c5, by omega, by go_num, rfl, Lib.hid (by rw [List.length_append, HL.out]; rfl), Lib.hid (by
        intro x hx
        rcases List.mem_append.1 hx with hx | hx
        · exact HG.out x hx
        · rw [List.mem_singleton.1 hx]
          exact ⟨HDD.out, HP.out.1, HP.out.2, Classical.em _⟩), Lib.hid (by rw [actsC_snoc]; exact g3), below_app (b_alloc HBw _) (own_below O1.out (by (repeat (first | (with_reducible exact Below.refl _ _) | (with_reducible assumption) | (with_reducible refine b_drew ?_) | (with_reducible refine b_drewN ?_ _) | (with_reducible refine b_alloc ?_ _) | ((with_reducible refine b_set ?_ ?_ _); rotate_left; (focus (first | omega | (simp; done) | (simp; omega) | (simp at *; omega)))) | (with_reducible refine b_call ?_ (by with_reducible assumption)))))) g4 (Nat.le_refl _) (by simp; omega)⟩
      case measure => simp [intOf]; omega
    · obtain rfl : m = i := by omega
      have E1 := HM3.out
      have HL' := HL.out
      subst HL'
      rcases E1 with h | h
      · have d1 : decide (L.length < n) = false := decide_eq_false (by omega)
        clear h
        go_wp2
        go_ret
        exact ⟨L, A1, c1, rfl, hm2, HG.out, HO.out, hB⟩
      · by_cases hln : L.length < n
        · have d1 : decide (L.length < n) = true := decide_eq_true hln
          have d2 : decide (L.length < 24) = false := decide_eq_false (by omega)
          have d2' : decide ((L.length : Int) < 24) = false := decide_eq_false (by omega)
          clear h hln
          go_wp2
          go_ret
          exact ⟨L, A1, c1, rfl, hm2, HG.out, HO.out, hB⟩
        · have d1 : decide (L.length < n) = false := decide_eq_false hln
          clear h hln
          go_wp2
          go_ret
          exact ⟨L, A1, c1, rfl, hm2, HG.out, HO.out, hB⟩
end Go.Proofs.Ytojmkfhinkmhaaa
