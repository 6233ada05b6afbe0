/-
  WHAT IS PROVED HERE: the contracts of package unionfind's New, Union, Same, and of the reference's Edges. No condition but bounds that every machine's lengths meet.
-/
import Derived.Test.YtjmhibjkbnbefaaUfB
namespace Go.Proofs.Ytjmhibjkbnbefaa
set_option linter.unusedVariables false
open Go.ChangeShapes Go.WideShapes Go.ChangeAt Go.RowKit

theorem fill_set {α : Type} (l : List α) (z : α) {n k : Nat} (hl : l.length = n) (hk : k < l.length) : (l.take k ++ List.replicate (n - k) z).set k l[k] = l.take (k + 1) ++ List.replicate (n - (k + 1)) z := by
  have h1 : (l.take k).length = k := by rw [List.length_take]; omega
  rw [List.set_append, if_neg (by omega), h1, Nat.sub_self, show n - k = (n - (k + 1)) + 1 from by omega, List.replicate_succ, List.set_cons_zero, List.take_succ_eq_append_getElem hk, List.append_assoc]
  rfl
theorem fill_full {α : Type} (l : List α) (z : α) {n : Nat} (hl : l.length = n) : l.take n ++ List.replicate (n - n) z = l := by
  rw [Nat.sub_self, List.take_of_length_le (by omega)]
  simp

/-- New sets come back: n elements, the partition f; old memory is as it was. -/
def RetS (w : World) (n : Nat) (f : Nat → Nat) (e : Ending) (w' : World) : Prop :=
  ∃ p g, e = .returned (.pointer (some ⟨p, 0, none⟩)) ∧ w.heap.size ≤ p ∧ w.heap.size ≤ g ∧ Ufs w' p g n f ∧ Below w.heap.size w w'

theorem down_range (n : Nat) : Down (List.range n) := by
  intro i
  rw [List.getD_eq_getElem?_getD]
  by_cases h : i < n
  · simp [h]
  · simp [h]
theorem root_range (n : Nat) : root (List.range n) = fun i => i := by
  funext i
  refine root_stop ?_
  rw [List.getD_eq_getElem?_getD]
  by_cases h : i < n
  · simp [h]
  · simp [h]

set_option maxHeartbeats 1000000 in
theorem ufnew_any (n : Nat) (w : World) (hn : n ≤ 10000) : Calls Try.prog 22 #[.int .i64 (n : Int)] w (RetS w n fun i => i) := by
  have hmk := fun W => run_mk (P := Try.prog) (z := .int .i64 0) (size := 1) (bytes := 8) Try.underlying22 (by kernel_rfl) n (by omega) (by omega) W
  have V0 := Lib.hid (show Vr (w.alloc (.cells (madeCells #[Value.int .i64 0] (n * 1)) 3)) w.heap.size 3 (((List.range n).map natI).take 0 ++ List.replicate (n - 0) (natI 0)).toArray from by
    have h := Vr.new w 3 (madeCells #[Value.int .i64 0] (n * 1))
    have e : madeCells #[Value.int .i64 0] (n * 1) = (((List.range n).map natI).take 0 ++ List.replicate (n - 0) (natI 0)).toArray := by
      apply Array.ext'
      rw [made_one]
      simp [natI]
    rw [← e]
    exact h)
  have HL := Lib.hid (show ((List.range n).map natI).length = n from by simp)
  go_enter Try.func22, Try.ntmps22
  go_wp2
  go_loopw [11] (fun i wr => ∃ k : Nat, k ≤ n ∧ i = .int .i64 k ∧ Hid (Vr wr w.heap.size 3 (((List.range n).map natI).take k ++ List.replicate (n - k) (natI 0)).toArray) ∧ Below w.heap.size w wr) (fun i _ => n - (intOf i).toNat)
  case atStart => exact ⟨0, by omega, rfl, by simpa using V0, b_alloc (Below.refl _ _) _⟩
  case round =>
    obtain ⟨k, hk, rfl, HV, hB⟩ := hrel
    by_cases hlt : k < n
    · have hk' : k < ((List.range n).map natI).length := by rw [HL.out]; exact hlt
      have E1 := Lib.hid (fill_set ((List.range n).map natI) (natI 0) HL.out hk')
      have E2 := Lib.hid (show ((List.range n).map natI)[k] = natI k from by simp)
      have hf := HV.out.frozen k
      have hc : wr.cell? ⟨w.heap.size, k, none⟩ = some (((((List.range n).map natI).take k ++ List.replicate (n - k) (natI 0)).toArray)[k]'(by simp; omega)) := by rw [HV.out.cell, Array.getElem?_eq_getElem]
      obtain ⟨u, hu⟩ : ∃ u, ((((List.range n).map natI).take k ++ List.replicate (n - k) (natI 0)).toArray)[k]'(by simp; omega) = u := ⟨_, rfl⟩
      rw [hu] at hc
      clear hu
      go_wp2
      go_roundw
      case rel => exact ⟨k + 1, by omega, by go_num, Lib.hid (by
        have h := HV.out.set k (natI k)
        rw [List.setIfInBounds_toArray, ← E2.out, E1.out] at h
        rw [E2.out] at h
        exact h), hB.setCell (p := ⟨w.heap.size, k, none⟩) (Nat.le_refl _) _⟩
      case measure => simp [intOf]; omega
    · obtain rfl : n = k := by omega
      have VF := Lib.hid (show Vr wr w.heap.size 3 ((List.range n).map natI).toArray from by
        have h := HV.out
        rw [fill_full _ _ HL.out] at h
        exact h)
      go_wp2
      go_ret
      exact ⟨wr.heap.size, w.heap.size, rfl, hB.size, Nat.le_refl _, ⟨List.range n, by simp, down_range n, root_range n, Vr.new _ _ _, VF.out.alloc _⟩, b_alloc hB _⟩

theorem only_two {g : Nat} {a b c : World} (h : Only (· = g) a b) (k : Only (· = g) b c) : Only (· = g) a c := h.trans k
set_option maxHeartbeats 2000000 in
theorem ufsame_any (p g n : Nat) (f : Nat → Nat) (a b : Int) (w : World) (hn : n ≤ 10000) (ha0 : -9223372036854775808 ≤ a ∧ a ≤ 9223372036854775807) (hb0 : -9223372036854775808 ≤ b ∧ b ≤ 9223372036854775807) (hU : Ufs w p g n f) :
    Calls Try.prog 26 #[.pointer (some ⟨p, 0, none⟩), .int .i64 a, .int .i64 b] w fun e w' => e = .returned (.bool (sameU n f a b)) ∧ Ufs w' p g n f ∧ Only (· = g) w w' := by
  have HU := Lib.hid hU
  clear hU
  by_cases ha : inR n a = true
  · by_cases hb : inR n b = true
    · have la := in_lt ha
      have lb := in_lt hb
      have ha' : 0 ≤ a ∧ a < n := by simpa [inR] using ha
      have hb' : 0 ≤ b ∧ b < n := by simpa [inR] using hb
      obtain ⟨x, rfl⟩ : ∃ x : Nat, a = x := ⟨a.toNat, by omega⟩
      obtain ⟨y, rfl⟩ : ∃ y : Nat, b = y := ⟨b.toNat, by omega⟩
      have E1 := Lib.hid (show sameU n f x y = decide (f x = f y) from by unfold sameU; rw [ha, hb]; simp)
      clear ha' hb'
      simp only [Int.toNat_natCast] at la lb
      go_enter Try.func26, Try.ntmps26
      go_wp2_with fail
      refine (contains_any p g n f x _ hn ha0 HU.out).mono ?_
      rintro e w_ ⟨rfl, rfl⟩
      go_wp2_with fail
      refine (contains_any p g n f y _ hn hb0 HU.out).mono ?_
      rintro e w_ ⟨rfl, rfl⟩
      go_wp2_with fail
      refine (find_any p g n f x _ hn la HU.out).mono ?_
      rintro e w1 ⟨rfl, U1, O1⟩
      have U1 := Lib.hid U1
      go_wp2_with fail
      refine (find_any p g n f y _ hn lb U1.out).mono ?_
      rintro e w2 ⟨rfl, U2, O2⟩
      have U2 := Lib.hid U2
      go_wp2
      go_ret
      exact ⟨ret_bool (by rw [E1.out, Bool.eq_iff_iff]; simp; omega), U2.out, O1.trans O2⟩
    · have hb2 : inR n b = false := by simpa using hb
      have E1 := Lib.hid (show sameU n f a b = false from by unfold sameU; rw [hb2]; simp)
      clear hb
      go_enter Try.func26, Try.ntmps26
      go_wp2_with fail
      refine (contains_any p g n f a _ hn ha0 HU.out).mono ?_
      rintro e w_ ⟨rfl, rfl⟩
      go_wp2_with fail
      refine (contains_any p g n f b _ hn hb0 HU.out).mono ?_
      rintro e w_ ⟨rfl, rfl⟩
      go_wp2
      go_ret
      exact ⟨ret_bool (by rw [E1.out]), HU.out, Only.refl _ _⟩
  · have ha2 : inR n a = false := by simpa using ha
    have E1 := Lib.hid (show sameU n f a b = false from by unfold sameU; rw [ha2]; simp)
    clear ha
    go_enter Try.func26, Try.ntmps26
    go_wp2_with fail
    refine (contains_any p g n f a _ hn ha0 HU.out).mono ?_
    rintro e w_ ⟨rfl, rfl⟩
    go_wp2
    go_ret
    exact ⟨ret_bool (by rw [E1.out]), HU.out, Only.refl _ _⟩

/-- The union of two roots in memory. -/
theorem ufs_union {w : World} {p g n x y : Nat} {f : Nat → Nat} (hU : Ufs w p g n f) (hx : x < n) (hy : y < n) (h : ¬ f x = f y) : Ufs (w.setCell ⟨g, max (f x) (f y), none⟩ (natI (min (f x) (f y)))) p g n (mergeR f x y) := by
  obtain ⟨par, hl, hD, rfl, hVp, hVg⟩ := hU
  have hpg := ufs_ne hVp hVg
  have P := part_root par
  have mm := minmax P x y
  have lx := P.lt hx
  have ly := P.lt hy
  refine ⟨par.set (max (root par x) (root par y)) (min (root par x) (root par y)), by simpa using hl, hD.set (by omega) (by omega), ?_, hVp.far hpg _, ?_⟩
  · funext i
    rw [root_join (by omega) (by omega) mm.1 mm.2]
    rfl
  · rw [← natI_set]
    exact hVg.set _ _

set_option maxHeartbeats 2000000 in
theorem ufunion_any (p g n : Nat) (f : Nat → Nat) (a b : Int) (w : World) (hn : n ≤ 10000) (ha0 : -9223372036854775808 ≤ a ∧ a ≤ 9223372036854775807) (hb0 : -9223372036854775808 ≤ b ∧ b ≤ 9223372036854775807) (hU : Ufs w p g n f) :
    Calls Try.prog 25 #[.pointer (some ⟨p, 0, none⟩), .int .i64 a, .int .i64 b] w fun e w' => e = .returned (.bool (uniB n f a b)) ∧ Ufs w' p g n (uniF n f a b) ∧ Only (· = g) w w' := by
  have HU := Lib.hid hU
  have HP := Lib.hid hU.part
  clear hU
  by_cases ha : inR n a = true
  · by_cases hb : inR n b = true
    · have la := in_lt ha
      have lb := in_lt hb
      have ha' : 0 ≤ a ∧ a < n := by simpa [inR] using ha
      have hb' : 0 ≤ b ∧ b < n := by simpa [inR] using hb
      obtain ⟨x, rfl⟩ : ∃ x : Nat, a = x := ⟨a.toNat, by omega⟩
      obtain ⟨y, rfl⟩ : ∃ y : Nat, b = y := ⟨b.toNat, by omega⟩
      have E1 := Lib.hid (show uniB n f x y = !decide (f x = f y) from by unfold uniB; rw [ha, hb]; simp)
      have E2 := Lib.hid (show uniF n f x y = mergeR f x y from by unfold uniF; rw [ha, hb]; simp)
      clear ha' hb'
      simp only [Int.toNat_natCast] at la lb
      have lx := HP.out.lt la
      have ly := HP.out.lt lb
      by_cases hxy : f x = f y
      · have hq : ((f x : Int) == (f y : Int)) = true := by simp; omega
        have E3 := Lib.hid (show uniF n f x y = f from by rw [E2.out, merge_same hxy])
        have E4 := Lib.hid (show uniB n f x y = false from by rw [E1.out]; simpa using hxy)
        clear hxy
        go_enter Try.func25, Try.ntmps25
        go_wp2_with fail
        refine (contains_any p g n f x _ hn ha0 HU.out).mono ?_
        rintro e w_ ⟨rfl, rfl⟩
        go_wp2_with fail
        refine (contains_any p g n f y _ hn hb0 HU.out).mono ?_
        rintro e w_ ⟨rfl, rfl⟩
        go_wp2_with fail
        refine (find_any p g n f x _ hn la HU.out).mono ?_
        rintro e w1 ⟨rfl, U1, O1⟩
        have U1 := Lib.hid U1
        go_wp2_with fail
        refine (find_any p g n f y _ hn lb U1.out).mono ?_
        rintro e w2 ⟨rfl, U2, O2⟩
        have U2 := Lib.hid U2
        go_wp2
        go_ret
        exact ⟨ret_bool (by rw [E4.out]), by rw [E3.out]; exact U2.out, O1.trans O2⟩
      · have hq : ((f x : Int) == (f y : Int)) = false := by simp; omega
        have E4 := Lib.hid (show uniB n f x y = true from by rw [E1.out]; simpa using hxy)
        have HN := Lib.hid hxy
        clear hxy
        go_enter Try.func25, Try.ntmps25
        go_wp2_with fail
        refine (contains_any p g n f x _ hn ha0 HU.out).mono ?_
        rintro e w_ ⟨rfl, rfl⟩
        go_wp2_with fail
        refine (contains_any p g n f y _ hn hb0 HU.out).mono ?_
        rintro e w_ ⟨rfl, rfl⟩
        go_wp2_with fail
        refine (find_any p g n f x _ hn la HU.out).mono ?_
        rintro e w1 ⟨rfl, U1, O1⟩
        have U1 := Lib.hid U1
        go_wp2_with fail
        refine (find_any p g n f y _ hn lb U1.out).mono ?_
        rintro e w2 ⟨rfl, U2, O2⟩
        have U3 := Lib.hid (ufs_union U2 la lb HN.out)
        obtain ⟨par, hl, hD, hf, hVp, hVg⟩ := U2
        have hc0 : w2.cell? ⟨p, 0, none⟩ = some (.slice (some ⟨g, 0, none⟩) n n) := by rw [hVp.cell]; rfl
        have hc1 := natI_cell hVg (i := max (f x) (f y)) (by omega)
        have hf1 := hVg.frozen (max (f x) (f y))
        obtain ⟨u, hu⟩ : ∃ u, (Value.int .i64 (par.getD (max (f x) (f y)) (max (f x) (f y)) : Nat)) = u := ⟨_, rfl⟩
        rw [hu] at hc1
        clear hu hl hD hf hVp hVg
        have UF := Lib.hid (And.intro E4.out E2.out)
        rcases Nat.lt_or_ge (f x) (f y) with hle | hle0
        · rw [Nat.max_eq_right (by omega)] at hc1 hf1 U3
          rw [Nat.min_eq_left (by omega)] at U3
          have hle1 : (f x : Int) ≤ (f y : Int) := by omega
          have hle2 : (f x : Int) < (f y : Int) := by omega
          go_wp2
          go_ret
          exact ⟨ret_bool (by rw [UF.out.1]), by rw [UF.out.2]; exact U3.out, (O1.trans O2).setCell (p := ⟨g, f y, none⟩) (.inl rfl) _⟩
        · have hle : f y < f x := by have := HN.out; omega
          rw [Nat.max_eq_left (by omega)] at hc1 hf1 U3
          rw [Nat.min_eq_right (by omega)] at U3
          have hle1 : (f y : Int) ≤ (f x : Int) := by omega
          have hle2 : (f y : Int) < (f x : Int) := by omega
          clear hle0
          go_wp2
          go_ret
          exact ⟨ret_bool (by rw [UF.out.1]), by rw [UF.out.2]; exact U3.out, (O1.trans O2).setCell (p := ⟨g, f x, none⟩) (.inl rfl) _⟩
    · have hb2 : inR n b = false := by simpa using hb
      have E1 := Lib.hid (show uniB n f a b = false ∧ uniF n f a b = f from by unfold uniB uniF; rw [hb2]; simp)
      clear hb
      go_enter Try.func25, Try.ntmps25
      go_wp2_with fail
      refine (contains_any p g n f a _ hn ha0 HU.out).mono ?_
      rintro e w_ ⟨rfl, rfl⟩
      go_wp2_with fail
      refine (contains_any p g n f b _ hn hb0 HU.out).mono ?_
      rintro e w_ ⟨rfl, rfl⟩
      go_wp2
      go_ret
      exact ⟨ret_bool (by rw [E1.out.1]), by rw [E1.out.2]; exact HU.out, Only.refl _ _⟩
  · have ha2 : inR n a = false := by simpa using ha
    have E1 := Lib.hid (show uniB n f a b = false ∧ uniF n f a b = f from by unfold uniB uniF; rw [ha2]; simp)
    clear ha
    go_enter Try.func25, Try.ntmps25
    go_wp2_with fail
    refine (contains_any p g n f a _ hn ha0 HU.out).mono ?_
    rintro e w_ ⟨rfl, rfl⟩
    go_wp2
    go_ret
    exact ⟨ret_bool (by rw [E1.out.1]), by rw [E1.out.2]; exact HU.out, Only.refl _ _⟩

/-! ### Edges -/
@[irreducible] def edgeOf (l : Int) : Int × Int := (around l 10000 % 15 - around l 10000 % 100 / 99, around l 10000 / 15 % 15)
theorem edge_bd (l : Int) : (-1 ≤ (edgeOf l).1 ∧ (edgeOf l).1 ≤ 14) ∧ (0 ≤ (edgeOf l).2 ∧ (edgeOf l).2 ≤ 14) := by
  have := around_bd l 10000 (by omega)
  unfold edgeOf
  simp only
  omega
/-- The cells of a list of edges. -/
def flat2 (l : List (Int × Int)) : List Value := l.flatMap fun x => [.int .i64 x.1, .int .i64 x.2]
theorem flat2_length (l : List (Int × Int)) : (flat2 l).length = l.length * 2 := by
  induction l with
  | nil => rfl
  | cons x l ih => rw [flat2, List.flatMap_cons, List.length_append, ← flat2, ih]; simp; omega
theorem flat2_append (l m : List (Int × Int)) : flat2 (l ++ m) = flat2 l ++ flat2 m := by simp [flat2]
theorem flat2_one (x : Int × Int) : flat2 [x] = [.int .i64 x.1, .int .i64 x.2] := by simp [flat2]
theorem flat2_cell (l : List (Int × Int)) : ∀ u ∈ flat2 l, u.oneCell' = true := by
  intro u hu
  obtain ⟨x, _, hx⟩ := List.mem_flatMap.1 hu
  simp at hx
  rcases hx with rfl | rfl <;> rfl
theorem flat2_get {l : List (Int × Int)} {k : Nat} (h : k < l.length) : (flat2 l)[k * 2]? = some (.int .i64 l[k].1) ∧ (flat2 l)[k * 2 + 1]? = some (.int .i64 l[k].2) := by
  induction l generalizing k with
  | nil => simp at h
  | cons x l ih =>
    have hf : flat2 (x :: l) = [.int .i64 x.1, .int .i64 x.2] ++ flat2 l := by rw [flat2, List.flatMap_cons, ← flat2]
    rw [hf]
    rcases k with _ | k
    · simp
    · have h' : k < l.length := by simpa using h
      have := ih h'
      rw [show (k + 1) * 2 = k * 2 + 2 from by omega, show k * 2 + 2 + 1 = (k * 2 + 1) + 2 from by omega]
      rw [List.getElem?_append_right (by simp), List.getElem?_append_right (by simp)]
      simpa using this
/-- An edge of a list that is read, opened. -/
theorem Rd.openEdge {w : World} {B n k : Nat} {A : Option Addr} {l : List (Int × Int)} (h : Rd w B 2 A n (flat2 l)) (hk : k < n) :
    ∃ b o, ∃ hl : k < l.length, A = some ⟨b, o, none⟩ ∧ b < B ∧ w.cell? ⟨b, o + k * 2, none⟩ = some (.int .i64 l[k].1) ∧ w.cell? ⟨b, o + k * 2 + 1, none⟩ = some (.int .i64 l[k].2) := by
  have hn : l.length = n := by
    have := h.1
    rw [flat2_length] at this
    omega
  have hl : k < l.length := by omega
  obtain ⟨g0, g1⟩ := flat2_get hl
  obtain ⟨b, o, e, hb, hc⟩ := h.2 (by intro e; rw [e] at g0; simp at g0)
  exact ⟨b, o, hl, e, hb, hc _ _ g0, hc _ _ g1⟩
theorem slEdge : SlT Try.prog 24 32 2 16 := .mk' (z := .agg #[.int .i64 0, .int .i64 0]) Try.underlying24 (by kernel_rfl) rfl (by omega)

set_option maxHeartbeats 2000000 in
theorem edges_any (A : Option Addr) (n c : Nat) (l : List Int) (w : World) (hI : ∀ x ∈ l, -9223372036854775808 ≤ x ∧ x ≤ 9223372036854775807) (rd : Rd w w.heap.size 1 A n (l.map (Value.int .i64))) (hn : n ≤ 9223372036854775807) :
    Calls Try.prog 12 #[.slice A n c] w (RetSl w 32 2 (min n 30) (flat2 ((l.map edgeOf).take 30))) := by
  have hll : l.length = n := by have := rd.1; simpa using this
  have RD := Lib.hid rd
  have HL := Lib.hid hll
  clear rd hll
  go_enter Try.func12, Try.ntmps12
  go_wp2
  go_loopw [3, 4] (fun v i wr => ∃ (k : Nat) (A' : Option Addr) (c' : Nat), k ≤ n ∧ k ≤ 30 ∧ i = .int .i64 k ∧ v = .slice A' k c' ∧ wr.ownsRow w.heap.size 32 2 (.slice A' k c') k (flat2 ((l.map edgeOf).take k)) ∧ k ≤ c' ∧ c' ≤ maxLen ∧ Below w.heap.size w wr) (fun _ i _ => 30 - (intOf i).toNat)
  case atStart => exact ⟨0, none, 0, by omega, by omega, rfl, rfl, own_nil _ _ _ _, by omega, by simp [maxLen], Below.refl _ _⟩
  case round =>
    obtain ⟨k, A', c', hk, hkM, rfl, rfl, hown, hc3, hc4, hB⟩ := hrel
    have OW := Lib.hid hown
    clear hown
    have hz1 := hB.size
    by_cases hlt : k < n
    · by_cases hlM : k < 30
      · obtain ⟨b, o, hl, rfl, hb, hcell⟩ := (RD.out.below hB (Nat.le_refl _)).openMap hlt
        have hi := hI _ (List.getElem_mem hl)
        have E1 := Lib.hid (map_take_snoc edgeOf hl 0)
        have E0 := Lib.hid (show l.getD k 0 = l[k] from by simp [List.getD_eq_getElem?_getD, hl])
        obtain ⟨x, hx⟩ : ∃ x, l[k] = x := ⟨_, rfl⟩
        rw [hx] at hcell hi E0
        clear hx
        have hx1 := around_bd x 10000 (by omega)
        have E2 := Lib.hid (show edgeOf x = (around x 10000 % 15 - around x 10000 % 100 / 99, around x 10000 / 15 % 15) from by unfold edgeOf; rfl)
        go_wp2_with (first
          | (go_at_call 17; refine (around_any _ _ _ (by omega) (by omega) (by omega) (by omega)).mono ?_; rintro e w' ⟨rfl, rfl⟩)
          | (at_builtin; refine wpList_app _ rfl (.tmp 21) (.tmp 32) slEdge rfl rfl (OW.out.alloc _) rfl (rd_lit _ _ _ rfl rfl) (by intro u hu; simp at hu; rcases hu with rfl | rfl <;> rfl) (k + 1) rfl (by unfold maxLen; omega) (by omega) (by simp; omega) ?_; intro A2 c2 w2 g1 g2 g3 g4 _))
        go_roundw
        case rel => exact ⟨k + 1, A2, c2, by omega, by omega, by go_num, rfl, by rw [E1.out, E0.out, flat2_append, flat2_one, E2.out]; exact g3, g1, g2, below_app (b_alloc hB _) (OW.out.alloc _) g4 (Nat.le_refl _) (by simp; omega)⟩
        case measure => simp [intOf]; omega
      · obtain rfl : k = 30 := by omega
        have E1 := Lib.hid (Nat.min_eq_right (by omega : 30 ≤ n))
        go_wp2
        go_ret
        exact ⟨A', c', by rw [E1.out]; rfl, by rw [E1.out]; exact hc3, hc4, by rw [E1.out]; exact OW.out, hB⟩
    · obtain rfl : n = k := by omega
      have E1 := Lib.hid (Nat.min_eq_left (by omega : n ≤ 30))
      have E2 := Lib.hid (show (l.map edgeOf).take n = (l.map edgeOf).take 30 from by rw [List.take_of_length_le (by rw [List.length_map, HL.out]; omega), List.take_of_length_le (by rw [List.length_map, HL.out]; omega)])
      go_wp2
      go_ret
      exact ⟨A', c', by rw [E1.out]; rfl, by rw [E1.out]; exact hc3, hc4, by rw [E1.out, ← E2.out]; exact OW.out, hB⟩
end Go.Proofs.Ytjmhibjkbnbefaa
