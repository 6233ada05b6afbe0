/-
  WHAT IS PROVED HERE: rows of leaves in memory; the contract of package merkle's NewPartial. No condition but that the leaves lie in memory, and bounds that every machine's lengths meet.
-/
import Derived.Test.YtgelhcgaacnjcaaMkX
import Derived.Carry
namespace Go.Proofs.Ytgelhcgaacnjcaa
set_option linter.unusedVariables false
open Go.RowKit Go.Shelf

/-- a leaf in memory -/
structure LfR where
  ix : Int
  v : Int
  A : Option Addr
  m : Nat
  c : Nat
  prf : List Int
def lfC (r : LfR) : List Value := [.int .i64 r.ix, .int .i64 r.v, .slice r.A r.m r.c]
def lfCs (rs : List LfR) : List Value := (rs.map lfC).flatten
theorem lfCs_len (rs : List LfR) : (lfCs rs).length = rs.length * 3 := by
  unfold lfCs
  induction rs with
  | nil => rfl
  | cons r rs ih => simp only [List.map_cons, List.flatten_cons, List.length_append, ih, List.length_cons]; simp [lfC]; omega
theorem lfCs_get : ∀ (rs : List LfR) (k t : Nat) (hk : k < rs.length), t < 3 → (lfCs rs)[k * 3 + t]? = (lfC rs[k])[t]?
  | r :: rs, 0, t, _, ht => by
    show ((lfC r) ++ _)[0 * 3 + t]? = _
    rw [Nat.zero_mul, Nat.zero_add, List.getElem?_append_left (by simpa [lfC] using ht)]
    rfl
  | r :: rs, k + 1, t, hk, ht => by
    show ((lfC r) ++ lfCs rs)[(k + 1) * 3 + t]? = _
    rw [List.getElem?_append_right (by simp [lfC]; omega), show (k + 1) * 3 + t - (lfC r).length = k * 3 + t from by simp [lfC]; omega]
    exact lfCs_get rs k t (by simpa using hk) ht
/-- a row of leaves in memory -/
def LfRows (w : World) (B : Nat) (A : Option Addr) (m : Nat) (rs : List LfR) : Prop := Rd w B 3 A m (lfCs rs) ∧ ∀ r ∈ rs, Rd w B 1 r.A r.m (r.prf.map (Value.int .u64))
theorem LfRows.len {w : World} {B : Nat} {A : Option Addr} {m : Nat} {rs : List LfR} (h : LfRows w B A m rs) : rs.length = m := by
  have := h.1.1
  rw [lfCs_len] at this
  omega
theorem LfRows.below {w w' : World} {B B' : Nat} {A : Option Addr} {m : Nat} {rs : List LfR} (h : LfRows w B A m rs) (hb : Below B' w w') (hB : B ≤ B') : LfRows w' B A m rs := ⟨h.1.below hb hB, fun r hr => (h.2 r hr).below hb hB⟩
theorem LfRows.more {w : World} {B B' : Nat} {A : Option Addr} {m : Nat} {rs : List LfR} (h : LfRows w B A m rs) (hB : B ≤ B') : LfRows w B' A m rs := ⟨h.1.more hB, fun r hr => (h.2 r hr).more hB⟩
theorem LfRows.at_ {w : World} {B : Nat} {A : Option Addr} {m : Nat} {rs : List LfR} (h : LfRows w B A m rs) {k : Nat} (hk : k < rs.length) :
    ∃ b o, A = some ⟨b, o, none⟩ ∧ b < B ∧ w.cell? ⟨b, o + k * 3, none⟩ = some (.int .i64 rs[k].ix) ∧ w.cell? ⟨b, o + k * 3 + 1, none⟩ = some (.int .i64 rs[k].v) ∧ w.cell? ⟨b, o + k * 3 + 2, none⟩ = some (.slice rs[k].A rs[k].m rs[k].c) := by
  have h0 := lfCs_get rs k 0 hk (by omega)
  have h1 := lfCs_get rs k 1 hk (by omega)
  have h2 := lfCs_get rs k 2 hk (by omega)
  obtain ⟨b, o, e, hb, hc⟩ := h.1.2 (by intro e; rw [e] at h0; simp [lfC] at h0)
  exact ⟨b, o, e, hb, hc _ _ h0, hc _ _ h1, hc _ _ h2⟩

/-! ### What NewPartial makes of its leaves -/
noncomputable def npRun (root n : Int) (q : Nat) (C M : Lit → Option Int) : List LfR → Option ((Lit → Option Int) × (Lit → Option Int))
  | [] => some (C, M)
  | r :: rs => if verB root n r.ix r.v r.prf = true ∧ ¬ ((C (kI r.ix)).isSome = true ∧ (C (kI r.ix)).getD 0 ≠ r.v) then npRun root n q (putM C (kI r.ix) r.v) (lrnRun r.prf r.ix.toNat (M, leafI r.ix r.v) (List.range q)).1 rs else none
noncomputable def M0 (root : Int) (q : Nat) : Lit → Option Int := putM (fun _ => none) (plL q 0) root
def RetPar (w : World) (q N : Nat) (x : Option ((Lit → Option Int) × (Lit → Option Int))) (e : Ending) (w' : World) : Prop :=
  Below w.heap.size w w' ∧ match x with
  | none => e = .returned (.tuple #[.pointer none, .int .i64 22])
  | some (C, M) => ∃ g bc bn, e = .returned (.tuple #[.pointer (some ⟨g, 0, none⟩), .int .i64 0]) ∧ Par w' g bc bn q N C M ∧ w.heap.size ≤ g ∧ w.heap.size ≤ bc ∧ w.heap.size ≤ bn
set_option maxHeartbeats 2000000 in
set_option maxRecDepth 100000 in
theorem newp_any (root : Int) (n m c : Nat) (A : Option Addr) (rs : List LfR) (W0 : World) (rd : LfRows W0 W0.heap.size A m rs) (hn : n ≤ 1000) (hm : m ≤ 100) :
    Calls Try.prog 26 #[.int .u64 root, .int .i64 n, .slice A m c] W0 (RetPar W0 (hgt n) (1 + 21 * m) (npRun root n (hgt n) (fun _ => none) (M0 root (hgt n)) rs)) := by
  have HLN := Lib.hid rd.len
  have RD := Lib.hid rd
  have hq10 : hgt n ≤ 10 := hgt_min (by omega)
  obtain ⟨q, hq⟩ : ∃ q, hgt n = q := ⟨_, rfl⟩
  rw [hq] at hq10 ⊢
  have HQ := Lib.hid hq
  have HI := Lib.hid (show I64 (q : Int) ∧ I64 (0 : Int) from ⟨by unfold I64; omega, by unfold I64; omega⟩)
  clear rd hq
  have hmm := @run_makeMap Try.prog
  have HM1 := Lib.hid (show MU ((W0.alloc (.map #[] 0)).alloc (.map #[] 0)) (W0.heap.size + 1) 0 (fun _ => none) from by
    have := MapV.made (W0.alloc (.map #[] 0)) Try.prog 64
    rw [World.size_alloc] at this
    exact this)
  go_enter Try.func26, Try.ntmps26
  go_wp2_with fail
  refine (height_any n _ (by omega)).mono ?_
  rintro e w_ ⟨rfl, rfl⟩
  rw [HQ.out]
  go_wp2_with (first | (refine wpList_insU rfl (.tmp 18) (.tmp 20) (.tmp 21) rfl rfl (n := 0) (M := fun _ => none) (b := W0.heap.size + 1) HM1.out (by unfold maxLen; omega) rfl rfl HI.out.1 HI.out.2 ?_; intro w1 m1 m2))
  have hs1 := m2.size
  simp only [World.size_alloc] at hs1
  have HB1 := Lib.hid (b_alloc ((b_alloc (b_alloc (Below.refl W0.heap.size W0) (.map #[] 0)) (.map #[] 0)).trans (m2.below (B := W0.heap.size) (by simp; omega) (fun k e => by omega))) (.cells #[.int .i64 q, .map (some W0.heap.size), .map (some (W0.heap.size + 1))] 77))
  clear hmm
  go_loopw [27] (fun s wr => ∃ (k : Nat) (C M : Lit → Option Int), k ≤ m ∧ s = .int .i64 k ∧ Hid (Par wr w1.heap.size W0.heap.size (W0.heap.size + 1) q (1 + 21 * k) C M) ∧ Hid (npRun root n q (fun _ => none) (M0 root q) rs = npRun root n q C M (rs.drop k)) ∧ Hid (Below W0.heap.size W0 wr)) (fun s _ => m - (intOf s).toNat)
  case atStart =>
    refine ⟨0, fun _ => none, M0 root q, by omega, rfl, Lib.hid ⟨Vr.new w1 _ _, ?_, ?_, by clear m1 m2; omega, by clear m1 m2; omega, by clear m1 m2; omega⟩, Lib.hid (by rw [List.drop_zero]), HB1⟩
    · have h1 : MI (W0.alloc (.map #[] 0)) W0.heap.size 0 (fun _ => none) := MapV.made W0 _ _
      have h2 := ((h1.call (b_alloc (Below.refl _ _) (.map #[] 0))).only m2 (by omega)).call (b_alloc (Below.refl _ _) (.cells #[.int .i64 q, .map (some W0.heap.size), .map (some (W0.heap.size + 1))] 77))
      exact h2.mono (by omega)
    · have h2 := m1.call (b_alloc (Below.refl _ _) (.cells #[.int .i64 q, .map (some W0.heap.size), .map (some (W0.heap.size + 1))] 77))
      exact h2.mono (by omega)
  case round =>
    obtain ⟨k, C, M, hk, rfl, HP, HR, HB⟩ := hrel
    clear HB1 m1 m2 HM1
    obtain ⟨b0, hb0⟩ : ∃ b, W0.heap.size = b := ⟨_, rfl⟩
    obtain ⟨G, hG⟩ : ∃ b, w1.heap.size = b := ⟨_, rfl⟩
    have HB0 := Lib.hid hb0
    rw [hb0, hG] at HP hs1 ⊢
    clear hG hb0
    by_cases hlt : k < m
    · have hlt' : k < rs.length := by rw [HLN.out]; exact hlt
      obtain ⟨bb, o, rfl, hb, c0, c1, c2⟩ := (RD.out.below HB.out (Nat.le_refl _)).at_ hlt'
      have RP := ((RD.out.below HB.out (Nat.le_refl _)).2 _ (List.getElem_mem hlt')).more HB.out.size
      have hdr : rs.drop k = rs[k] :: rs.drop (k + 1) := List.drop_eq_getElem_cons hlt'
      obtain ⟨⟨ix, v, A2, m2, c2', prf⟩, hr⟩ : ∃ r, rs[k] = r := ⟨_, rfl⟩
      rw [hr] at c0 c1 c2 RP hdr
      simp only at c0 c1 c2 RP
      have HDR := Lib.hid hdr
      have HRP := Lib.hid RP
      have hsz := HB.out.size
      have hbl : bb < wr.heap.size := by omega
      rw [HB0.out] at hb hsz
      have hPV := HP.out.V.lt
      obtain ⟨j1, j2⟩ : (0 : Int) ≤ (k : Int) ∧ (k : Int) < (m : Int) := by omega
      clear hdr RP hr hlt'
      go_wp2_with fail
      refine (verify_any root n ix v A2 m2 c2' prf _ (by omega) (rd_step HRP.out (by (repeat (first | (with_reducible exact Below.refl _ _) | (with_reducible assumption) | (with_reducible refine b_drew ?_) | (with_reducible refine b_drewN ?_ _) | (with_reducible refine b_alloc ?_ _) | ((with_reducible refine b_set ?_ ?_ _); rotate_left; (focus (first | omega | (simp; done) | (simp; omega) | (simp at *; omega)))) | (with_reducible refine b_call ?_ (by with_reducible assumption))))))).mono ?_
      rintro e w4 ⟨rfl, hb4⟩
      obtain ⟨qv, hqv⟩ : ∃ x, verB root n ix v prf = x := ⟨_, rfl⟩
      have HQV := Lib.hid hqv
      rw [hqv]
      rcases qv with _ | _
      · have HNO := Lib.hid (show npRun root n q (fun _ => none) (M0 root q) rs = none from by
          rw [HR.out, HDR.out]
          unfold npRun
          rw [if_neg (by simp [hqv])])
        have hbz := Lib.hid (b_call HB.out ((b_alloc (Below.refl _ _) _).trans (hb4.mono (by simp))))
        clear hqv hb4
        go_wp2
        go_ret2
        unfold RetPar
        rw [HNO.out]
        exact ⟨hbz.out, rfl⟩
      · have hh : 0 ≤ ix ∧ ix < n ∧ prf.length = hgt n := by
          by_cases h : 0 ≤ ix ∧ ix < (n : Int) ∧ prf.length = hgt (n : Int).toNat
          · simpa using h
          · rw [verB_no h] at hqv
            cases hqv
        have hl2 : prf.length = m2 := by have := HRP.out.1; simpa using this
        obtain rfl : q = m2 := by rw [← hl2, hh.2.2, HQ.out]
        obtain ⟨i, rfl⟩ := Int.eq_ofNat_of_zero_le hh.1
        have hin : i < n := by omega
        have hba := Lib.hid ((b_alloc (Below.refl wr.heap.size wr) (.cells #[.int .i64 i, .int .i64 v, .slice A2 q c2'] 25)).trans (hb4.mono (by simp)))
        have VL := Lib.hid ((Vr.new wr 25 #[.int .i64 i, .int .i64 v, .slice A2 q c2']).call hb4)
        have HP4 := Lib.hid (HP.out.call hba.out)
        have HRP4 := Lib.hid (rd_step HRP.out hba.out)
        have HB4 := Lib.hid (b_call HB.out hba.out)
        have hs4 := hba.out.size
        have hVL := VL.out.lt
        obtain ⟨bl, hbl2⟩ : ∃ b, wr.heap.size = b := ⟨_, rfl⟩
        obtain ⟨y, hy⟩ : ∃ y, (C (kI i)).getD 0 = y := ⟨_, rfl⟩
        obtain ⟨z, hz⟩ : ∃ z, (C (kI i)).isSome = z := ⟨_, rfl⟩
        have HY := Lib.hid hy
        have HZ := Lib.hid hz
        have HIX := Lib.hid (show I64 (i : Int) from by unfold I64; omega)
        rw [hbl2] at VL hVL hs4 hbl hPV hsz ⊢
        have x0 : w4.cell? ⟨bl, 0, none⟩ = some (.int .i64 i) := VL.out.cell 0
        have x1 : w4.cell? ⟨bl, 1, none⟩ = some (.int .i64 v) := VL.out.cell 1
        have x2 : w4.cell? ⟨bl, 2, none⟩ = some (.slice A2 q c2') := VL.out.cell 2
        have x3 : w4.cell? ⟨G, 1, none⟩ = some (.map (some b0)) := HP4.out.V.cell 1
        have hG4 := HP4.out.V.lt
        clear hqv hb4 hh hl2 hbl2 hy hz c0 c1 c2 hba HP HRP HB
        go_upto_region 8 with (fail)
        refine wp_region_any (by kernel_rfl) ?_
        change wpAny _ _ _ _ _ _ _ (World.drew _)
        refine wpAny_go (fun A0 L aa w => ∃ (v37 v38 v39 v40 v41 v42 v43 v36 v44 v45 v12 v13 : Value), aa = fr A0 [(37, v37), (38, v38), (39, v39), (40, v40), (41, v41), (42, v42), (43, v43), (36, v36), (44, v44), (45, v45), (12, v12), (13, v13)] ∧ (Only (fun _ => False) w4 w) ∧ Hid (L 0 = true → v37 = Value.pointer (some ⟨G, 0, none⟩)) ∧ Hid (L 1 = true → v38 = Value.pointer (some ⟨G, 0, none⟩)) ∧ Hid (L 2 = true → v39 = Value.pointer (some ⟨G, 1, none⟩)) ∧ Hid (L 3 = true → v40 = Value.map (some b0)) ∧ Hid (L 4 = true → v41 = Value.pointer (some ⟨bl, 0, none⟩)) ∧ Hid (L 5 = true → v42 = Value.int .i64 i) ∧ Hid (L 6 = true → v43 = Value.tuple #[Value.int .i64 y, Value.bool z]) ∧ Hid (L 7 = true → v36 = Value.tuple #[Value.int .i64 y, Value.bool z]) ∧ Hid (L 8 = true → v44 = Value.int .i64 y) ∧ Hid (L 9 = true → v45 = Value.bool z) ∧ Hid (L 10 = true → v12 = Value.int .i64 y) ∧ Hid (L 11 = true → v13 = Value.bool z)) [0, 1, 2, 3, 4, 5, 6, 7, 8, 9, 10, 11] (by kernel_rfl) (by kernel_rfl) ?a6I ?a6S ?a6D
        case a6I =>
          refine ⟨?a6v37, ?a6v38, ?a6v39, ?a6v40, ?a6v41, ?a6v42, ?a6v43, ?a6v36, ?a6v44, ?a6v45, ?a6v12, ?a6v13, ?a6fr, (Only.refl _ _).drew, Lib.hid (no_yet (by kernel_rfl)), Lib.hid (no_yet (by kernel_rfl)), Lib.hid (no_yet (by kernel_rfl)), Lib.hid (no_yet (by kernel_rfl)), Lib.hid (no_yet (by kernel_rfl)), Lib.hid (no_yet (by kernel_rfl)), Lib.hid (no_yet (by kernel_rfl)), Lib.hid (no_yet (by kernel_rfl)), Lib.hid (no_yet (by kernel_rfl)), Lib.hid (no_yet (by kernel_rfl)), Lib.hid (no_yet (by kernel_rfl)), Lib.hid (no_yet (by kernel_rfl))⟩
          case a6fr => (simp only [fr, List.foldl_cons, List.foldl_nil, Act.put, List.setIfInBounds_toArray, List.set_cons_zero, List.set_cons_succ]; rfl)
        case a6S =>
          refine Steps.plain (i := 0) (o := ?a6o0) [] ?a6h0 ?a6g0 ?a6d0 ?a6s0 ?a6r0
          case a6h0 => (simp only [List.getElem?_toArray, List.getElem?_cons_zero]; rfl)
          case a6g0 => rfl
          case a6d0 => kernel_rfl
          case a6s0 =>
            rintro L aa w h0 _ ⟨v37, v38, v39, v40, v41, v42, v43, v36, v44, v45, v12, v13, rfl, hO, hF⟩ K hK
            simp only [fr, List.foldl_cons, List.foldl_nil, Act.put, List.setIfInBounds_toArray, List.set_cons_zero, List.set_cons_succ]
            go_simp
            exact hK _ _ ⟨(Value.pointer (some ⟨G, 0, none⟩)), v38, v39, v40, v41, v42, v43, v36, v44, v45, v12, v13, (by (simp only [fr, List.foldl_cons, List.foldl_nil, Act.put, List.setIfInBounds_toArray, List.set_cons_zero, List.set_cons_succ]); try rfl), hO, Lib.hid (fun _ => rfl), hF.2.1, hF.2.2.1, hF.2.2.2.1, hF.2.2.2.2.1, hF.2.2.2.2.2.1, hF.2.2.2.2.2.2.1, hF.2.2.2.2.2.2.2.1, hF.2.2.2.2.2.2.2.2.1, hF.2.2.2.2.2.2.2.2.2.1, hF.2.2.2.2.2.2.2.2.2.2.1, hF.2.2.2.2.2.2.2.2.2.2.2⟩
          refine Steps.plain (i := 1) (o := ?a6o1) [0] ?a6h1 ?a6g1 ?a6d1 ?a6s1 ?a6r1
          case a6h1 => (simp only [List.getElem?_toArray, List.getElem?_cons_succ, List.getElem?_cons_zero]; rfl)
          case a6g1 => rfl
          case a6d1 => kernel_rfl
          case a6s1 =>
            rintro L aa w h0 ⟨e0, _⟩ ⟨v37, v38, v39, v40, v41, v42, v43, v36, v44, v45, v12, v13, rfl, hO, hF⟩ K hK
            obtain rfl := (hF.1).out e0
            simp only [fr, List.foldl_cons, List.foldl_nil, Act.put, List.setIfInBounds_toArray, List.set_cons_zero, List.set_cons_succ]
            go_simp
            exact hK _ _ ⟨(Value.pointer (some ⟨G, 0, none⟩)), (Value.pointer (some ⟨G, 0, none⟩)), v39, v40, v41, v42, v43, v36, v44, v45, v12, v13, (by (simp only [fr, List.foldl_cons, List.foldl_nil, Act.put, List.setIfInBounds_toArray, List.set_cons_zero, List.set_cons_succ]); try rfl), hO, hF.1, Lib.hid (fun _ => rfl), hF.2.2.1, hF.2.2.2.1, hF.2.2.2.2.1, hF.2.2.2.2.2.1, hF.2.2.2.2.2.2.1, hF.2.2.2.2.2.2.2.1, hF.2.2.2.2.2.2.2.2.1, hF.2.2.2.2.2.2.2.2.2.1, hF.2.2.2.2.2.2.2.2.2.2.1, hF.2.2.2.2.2.2.2.2.2.2.2⟩
          refine Steps.plain (i := 2) (o := ?a6o2) [1] ?a6h2 ?a6g2 ?a6d2 ?a6s2 ?a6r2
          case a6h2 => (simp only [List.getElem?_toArray, List.getElem?_cons_succ, List.getElem?_cons_zero]; rfl)
          case a6g2 => rfl
          case a6d2 => kernel_rfl
          case a6s2 =>
            rintro L aa w h0 ⟨e1, _⟩ ⟨v37, v38, v39, v40, v41, v42, v43, v36, v44, v45, v12, v13, rfl, hO, hF⟩ K hK
            obtain rfl := (hF.2.1).out e1
            simp only [fr, List.foldl_cons, List.foldl_nil, Act.put, List.setIfInBounds_toArray, List.set_cons_zero, List.set_cons_succ]
            go_simp
            exact hK _ _ ⟨v37, (Value.pointer (some ⟨G, 0, none⟩)), (Value.pointer (some ⟨G, 1, none⟩)), v40, v41, v42, v43, v36, v44, v45, v12, v13, (by (simp only [fr, List.foldl_cons, List.foldl_nil, Act.put, List.setIfInBounds_toArray, List.set_cons_zero, List.set_cons_succ]); try rfl), hO, hF.1, hF.2.1, Lib.hid (fun _ => rfl), hF.2.2.2.1, hF.2.2.2.2.1, hF.2.2.2.2.2.1, hF.2.2.2.2.2.2.1, hF.2.2.2.2.2.2.2.1, hF.2.2.2.2.2.2.2.2.1, hF.2.2.2.2.2.2.2.2.2.1, hF.2.2.2.2.2.2.2.2.2.2.1, hF.2.2.2.2.2.2.2.2.2.2.2⟩
          refine Steps.plain (i := 3) (o := ?a6o3) [2] ?a6h3 ?a6g3 ?a6d3 ?a6s3 ?a6r3
          case a6h3 => (simp only [List.getElem?_toArray, List.getElem?_cons_succ, List.getElem?_cons_zero]; rfl)
          case a6g3 => rfl
          case a6d3 => kernel_rfl
          case a6s3 =>
            rintro L aa w h0 ⟨e2, _⟩ ⟨v37, v38, v39, v40, v41, v42, v43, v36, v44, v45, v12, v13, rfl, hO, hF⟩ K hK
            obtain rfl := (hF.2.2.1).out e2
            simp only [fr, List.foldl_cons, List.foldl_nil, Act.put, List.setIfInBounds_toArray, List.set_cons_zero, List.set_cons_succ]
            have u := only_cell hO x3 (fun h => h)
            go_simp
            exact hK _ _ ⟨v37, v38, (Value.pointer (some ⟨G, 1, none⟩)), (Value.map (some b0)), v41, v42, v43, v36, v44, v45, v12, v13, (by (simp only [fr, List.foldl_cons, List.foldl_nil, Act.put, List.setIfInBounds_toArray, List.set_cons_zero, List.set_cons_succ]); try rfl), hO, hF.1, hF.2.1, hF.2.2.1, Lib.hid (fun _ => rfl), hF.2.2.2.2.1, hF.2.2.2.2.2.1, hF.2.2.2.2.2.2.1, hF.2.2.2.2.2.2.2.1, hF.2.2.2.2.2.2.2.2.1, hF.2.2.2.2.2.2.2.2.2.1, hF.2.2.2.2.2.2.2.2.2.2.1, hF.2.2.2.2.2.2.2.2.2.2.2⟩
          refine Steps.plain (i := 4) (o := ?a6o4) [] ?a6h4 ?a6g4 ?a6d4 ?a6s4 ?a6r4
          case a6h4 => (simp only [List.getElem?_toArray, List.getElem?_cons_succ, List.getElem?_cons_zero]; rfl)
          case a6g4 => rfl
          case a6d4 => kernel_rfl
          case a6s4 =>
            rintro L aa w h0 _ ⟨v37, v38, v39, v40, v41, v42, v43, v36, v44, v45, v12, v13, rfl, hO, hF⟩ K hK
            simp only [fr, List.foldl_cons, List.foldl_nil, Act.put, List.setIfInBounds_toArray, List.set_cons_zero, List.set_cons_succ]
            go_simp
            exact hK _ _ ⟨v37, v38, v39, v40, (Value.pointer (some ⟨bl, 0, none⟩)), v42, v43, v36, v44, v45, v12, v13, (by (simp only [fr, List.foldl_cons, List.foldl_nil, Act.put, List.setIfInBounds_toArray, List.set_cons_zero, List.set_cons_succ]); try rfl), hO, hF.1, hF.2.1, hF.2.2.1, hF.2.2.2.1, Lib.hid (fun _ => rfl), hF.2.2.2.2.2.1, hF.2.2.2.2.2.2.1, hF.2.2.2.2.2.2.2.1, hF.2.2.2.2.2.2.2.2.1, hF.2.2.2.2.2.2.2.2.2.1, hF.2.2.2.2.2.2.2.2.2.2.1, hF.2.2.2.2.2.2.2.2.2.2.2⟩
          refine Steps.plain (i := 5) (o := ?a6o5) [4] ?a6h5 ?a6g5 ?a6d5 ?a6s5 ?a6r5
          case a6h5 => (simp only [List.getElem?_toArray, List.getElem?_cons_succ, List.getElem?_cons_zero]; rfl)
          case a6g5 => rfl
          case a6d5 => kernel_rfl
          case a6s5 =>
            rintro L aa w h0 ⟨e4, _⟩ ⟨v37, v38, v39, v40, v41, v42, v43, v36, v44, v45, v12, v13, rfl, hO, hF⟩ K hK
            obtain rfl := (hF.2.2.2.2.1).out e4
            simp only [fr, List.foldl_cons, List.foldl_nil, Act.put, List.setIfInBounds_toArray, List.set_cons_zero, List.set_cons_succ]
            have u := only_cell hO x0 (fun h => h)
            go_simp
            exact hK _ _ ⟨v37, v38, v39, v40, (Value.pointer (some ⟨bl, 0, none⟩)), (Value.int .i64 i), v43, v36, v44, v45, v12, v13, (by (simp only [fr, List.foldl_cons, List.foldl_nil, Act.put, List.setIfInBounds_toArray, List.set_cons_zero, List.set_cons_succ]); try rfl), hO, hF.1, hF.2.1, hF.2.2.1, hF.2.2.2.1, hF.2.2.2.2.1, Lib.hid (fun _ => rfl), hF.2.2.2.2.2.2.1, hF.2.2.2.2.2.2.2.1, hF.2.2.2.2.2.2.2.2.1, hF.2.2.2.2.2.2.2.2.2.1, hF.2.2.2.2.2.2.2.2.2.2.1, hF.2.2.2.2.2.2.2.2.2.2.2⟩
          refine Steps.plain (i := 6) (o := ?a6o6) [3, 5] ?a6h6 ?a6g6 ?a6d6 ?a6s6 ?a6r6
          case a6h6 => (simp only [List.getElem?_toArray, List.getElem?_cons_succ, List.getElem?_cons_zero]; rfl)
          case a6g6 => rfl
          case a6d6 => kernel_rfl
          case a6s6 =>
            rintro L aa w h0 ⟨e3, e5, _⟩ ⟨v37, v38, v39, v40, v41, v42, v43, v36, v44, v45, v12, v13, rfl, hO, hF⟩ K hK
            obtain rfl := (hF.2.2.2.1).out e3
            obtain rfl := (hF.2.2.2.2.2.1).out e5
            simp only [fr, List.foldl_cons, List.foldl_nil, Act.put, List.setIfInBounds_toArray, List.set_cons_zero, List.set_cons_succ]
            refine step_lookI 43 rfl (.tmp 40) (.tmp 42) rfl rfl (HP4.out.C.only hO (fun h => h)) rfl HIX.out HY.out HZ.out ?_
            simp only [Act.put, List.setIfInBounds_toArray, List.set_cons_zero, List.set_cons_succ]
            exact hK _ _ ⟨v37, v38, v39, (Value.map (some b0)), v41, (Value.int .i64 i), (Value.tuple #[Value.int .i64 y, Value.bool z]), v36, v44, v45, v12, v13, (by (simp only [fr, List.foldl_cons, List.foldl_nil, Act.put, List.setIfInBounds_toArray, List.set_cons_zero, List.set_cons_succ]); try rfl), hO, hF.1, hF.2.1, hF.2.2.1, hF.2.2.2.1, hF.2.2.2.2.1, hF.2.2.2.2.2.1, Lib.hid (fun _ => rfl), hF.2.2.2.2.2.2.2.1, hF.2.2.2.2.2.2.2.2.1, hF.2.2.2.2.2.2.2.2.2.1, hF.2.2.2.2.2.2.2.2.2.2.1, hF.2.2.2.2.2.2.2.2.2.2.2⟩
          refine Steps.plain (i := 7) (o := ?a6o7) [6] ?a6h7 ?a6g7 ?a6d7 ?a6s7 ?a6r7
          case a6h7 => (simp only [List.getElem?_toArray, List.getElem?_cons_succ, List.getElem?_cons_zero]; rfl)
          case a6g7 => rfl
          case a6d7 => kernel_rfl
          case a6s7 =>
            rintro L aa w h0 ⟨e6, _⟩ ⟨v37, v38, v39, v40, v41, v42, v43, v36, v44, v45, v12, v13, rfl, hO, hF⟩ K hK
            obtain rfl := (hF.2.2.2.2.2.2.1).out e6
            simp only [fr, List.foldl_cons, List.foldl_nil, Act.put, List.setIfInBounds_toArray, List.set_cons_zero, List.set_cons_succ]
            go_simp
            exact hK _ _ ⟨v37, v38, v39, v40, v41, v42, (Value.tuple #[Value.int .i64 y, Value.bool z]), (Value.tuple #[Value.int .i64 y, Value.bool z]), v44, v45, v12, v13, (by (simp only [fr, List.foldl_cons, List.foldl_nil, Act.put, List.setIfInBounds_toArray, List.set_cons_zero, List.set_cons_succ]); try rfl), hO, hF.1, hF.2.1, hF.2.2.1, hF.2.2.2.1, hF.2.2.2.2.1, hF.2.2.2.2.2.1, hF.2.2.2.2.2.2.1, Lib.hid (fun _ => rfl), hF.2.2.2.2.2.2.2.2.1, hF.2.2.2.2.2.2.2.2.2.1, hF.2.2.2.2.2.2.2.2.2.2.1, hF.2.2.2.2.2.2.2.2.2.2.2⟩
          refine Steps.plain (i := 8) (o := ?a6o8) [7] ?a6h8 ?a6g8 ?a6d8 ?a6s8 ?a6r8
          case a6h8 => (simp only [List.getElem?_toArray, List.getElem?_cons_succ, List.getElem?_cons_zero]; rfl)
          case a6g8 => rfl
          case a6d8 => kernel_rfl
          case a6s8 =>
            rintro L aa w h0 ⟨e7, _⟩ ⟨v37, v38, v39, v40, v41, v42, v43, v36, v44, v45, v12, v13, rfl, hO, hF⟩ K hK
            obtain rfl := (hF.2.2.2.2.2.2.2.1).out e7
            simp only [fr, List.foldl_cons, List.foldl_nil, Act.put, List.setIfInBounds_toArray, List.set_cons_zero, List.set_cons_succ]
            go_simp
            exact hK _ _ ⟨v37, v38, v39, v40, v41, v42, v43, (Value.tuple #[Value.int .i64 y, Value.bool z]), (Value.int .i64 y), v45, v12, v13, (by (simp only [fr, List.foldl_cons, List.foldl_nil, Act.put, List.setIfInBounds_toArray, List.set_cons_zero, List.set_cons_succ]); try rfl), hO, hF.1, hF.2.1, hF.2.2.1, hF.2.2.2.1, hF.2.2.2.2.1, hF.2.2.2.2.2.1, hF.2.2.2.2.2.2.1, hF.2.2.2.2.2.2.2.1, Lib.hid (fun _ => rfl), hF.2.2.2.2.2.2.2.2.2.1, hF.2.2.2.2.2.2.2.2.2.2.1, hF.2.2.2.2.2.2.2.2.2.2.2⟩
          refine Steps.plain (i := 9) (o := ?a6o9) [7] ?a6h9 ?a6g9 ?a6d9 ?a6s9 ?a6r9
          case a6h9 => (simp only [List.getElem?_toArray, List.getElem?_cons_succ, List.getElem?_cons_zero]; rfl)
          case a6g9 => rfl
          case a6d9 => kernel_rfl
          case a6s9 =>
            rintro L aa w h0 ⟨e7, _⟩ ⟨v37, v38, v39, v40, v41, v42, v43, v36, v44, v45, v12, v13, rfl, hO, hF⟩ K hK
            obtain rfl := (hF.2.2.2.2.2.2.2.1).out e7
            simp only [fr, List.foldl_cons, List.foldl_nil, Act.put, List.setIfInBounds_toArray, List.set_cons_zero, List.set_cons_succ]
            go_simp
            exact hK _ _ ⟨v37, v38, v39, v40, v41, v42, v43, (Value.tuple #[Value.int .i64 y, Value.bool z]), v44, (Value.bool z), v12, v13, (by (simp only [fr, List.foldl_cons, List.foldl_nil, Act.put, List.setIfInBounds_toArray, List.set_cons_zero, List.set_cons_succ]); try rfl), hO, hF.1, hF.2.1, hF.2.2.1, hF.2.2.2.1, hF.2.2.2.2.1, hF.2.2.2.2.2.1, hF.2.2.2.2.2.2.1, hF.2.2.2.2.2.2.2.1, hF.2.2.2.2.2.2.2.2.1, Lib.hid (fun _ => rfl), hF.2.2.2.2.2.2.2.2.2.2.1, hF.2.2.2.2.2.2.2.2.2.2.2⟩
          refine Steps.plain (i := 10) (o := ?a6o10) [8] ?a6h10 ?a6g10 ?a6d10 ?a6s10 ?a6r10
          case a6h10 => (simp only [List.getElem?_toArray, List.getElem?_cons_succ, List.getElem?_cons_zero]; rfl)
          case a6g10 => rfl
          case a6d10 => kernel_rfl
          case a6s10 =>
            rintro L aa w h0 ⟨e8, _⟩ ⟨v37, v38, v39, v40, v41, v42, v43, v36, v44, v45, v12, v13, rfl, hO, hF⟩ K hK
            obtain rfl := (hF.2.2.2.2.2.2.2.2.1).out e8
            simp only [fr, List.foldl_cons, List.foldl_nil, Act.put, List.setIfInBounds_toArray, List.set_cons_zero, List.set_cons_succ]
            go_simp
            exact hK _ _ ⟨v37, v38, v39, v40, v41, v42, v43, v36, (Value.int .i64 y), v45, (Value.int .i64 y), v13, (by (simp only [fr, List.foldl_cons, List.foldl_nil, Act.put, List.setIfInBounds_toArray, List.set_cons_zero, List.set_cons_succ]); try rfl), hO, hF.1, hF.2.1, hF.2.2.1, hF.2.2.2.1, hF.2.2.2.2.1, hF.2.2.2.2.2.1, hF.2.2.2.2.2.2.1, hF.2.2.2.2.2.2.2.1, hF.2.2.2.2.2.2.2.2.1, hF.2.2.2.2.2.2.2.2.2.1, Lib.hid (fun _ => rfl), hF.2.2.2.2.2.2.2.2.2.2.2⟩
          refine Steps.plain (i := 11) (o := ?a6o11) [9] ?a6h11 ?a6g11 ?a6d11 ?a6s11 ?a6r11
          case a6h11 => (simp only [List.getElem?_toArray, List.getElem?_cons_succ, List.getElem?_cons_zero]; rfl)
          case a6g11 => rfl
          case a6d11 => kernel_rfl
          case a6s11 =>
            rintro L aa w h0 ⟨e9, _⟩ ⟨v37, v38, v39, v40, v41, v42, v43, v36, v44, v45, v12, v13, rfl, hO, hF⟩ K hK
            obtain rfl := (hF.2.2.2.2.2.2.2.2.2.1).out e9
            simp only [fr, List.foldl_cons, List.foldl_nil, Act.put, List.setIfInBounds_toArray, List.set_cons_zero, List.set_cons_succ]
            go_simp
            exact hK _ _ ⟨v37, v38, v39, v40, v41, v42, v43, v36, v44, (Value.bool z), v12, (Value.bool z), (by (simp only [fr, List.foldl_cons, List.foldl_nil, Act.put, List.setIfInBounds_toArray, List.set_cons_zero, List.set_cons_succ]); try rfl), hO, hF.1, hF.2.1, hF.2.2.1, hF.2.2.2.1, hF.2.2.2.2.1, hF.2.2.2.2.2.1, hF.2.2.2.2.2.2.1, hF.2.2.2.2.2.2.2.1, hF.2.2.2.2.2.2.2.2.1, hF.2.2.2.2.2.2.2.2.2.1, hF.2.2.2.2.2.2.2.2.2.2.1, Lib.hid (fun _ => rfl)⟩
          exact Steps.nil
        case a6D =>
          rintro L aa w hL ⟨v37, v38, v39, v40, v41, v42, v43, v36, v44, v45, v12, v13, rfl, hO, hF⟩
          obtain rfl := (hF.1).out (hL 0 (by decide))
          obtain rfl := (hF.2.1).out (hL 1 (by decide))
          obtain rfl := (hF.2.2.1).out (hL 2 (by decide))
          obtain rfl := (hF.2.2.2.1).out (hL 3 (by decide))
          obtain rfl := (hF.2.2.2.2.1).out (hL 4 (by decide))
          obtain rfl := (hF.2.2.2.2.2.1).out (hL 5 (by decide))
          obtain rfl := (hF.2.2.2.2.2.2.1).out (hL 6 (by decide))
          obtain rfl := (hF.2.2.2.2.2.2.2.1).out (hL 7 (by decide))
          obtain rfl := (hF.2.2.2.2.2.2.2.2.1).out (hL 8 (by decide))
          obtain rfl := (hF.2.2.2.2.2.2.2.2.2.1).out (hL 9 (by decide))
          obtain rfl := (hF.2.2.2.2.2.2.2.2.2.2.1).out (hL 10 (by decide))
          obtain rfl := (hF.2.2.2.2.2.2.2.2.2.2.2).out (hL 11 (by decide))
          have l0 := hL 0 (by decide)
          have l1 := hL 1 (by decide)
          have l2 := hL 2 (by decide)
          have l3 := hL 3 (by decide)
          have l4 := hL 4 (by decide)
          have l5 := hL 5 (by decide)
          have l6 := hL 6 (by decide)
          have l7 := hL 7 (by decide)
          have l8 := hL 8 (by decide)
          have l9 := hL 9 (by decide)
          have l10 := hL 10 (by decide)
          have l11 := hL 11 (by decide)
          clear hL
          simp only [fr, List.foldl_cons, List.foldl_nil, Act.put, List.setIfInBounds_toArray, List.set_cons_zero, List.set_cons_succ]
          have hb5 : Below w4.heap.size w4 w := hO.below (Nat.le_refl _) (fun _ h => h.elim)
          obtain ⟨w5, rfl⟩ : ∃ X : World, X = w := ⟨_, rfl⟩
          have HP5 := Lib.hid (HP4.out.call hb5)
          have HRP5 := Lib.hid (rd_step HRP4.out hb5)
          have HB5 := Lib.hid (b_call HB4.out hb5)
          have VL5 := Lib.hid (VL.out.call hb5)
          have hs5 := hb5.size
          have y0 : w5.cell? ⟨bl, 0, none⟩ = some (.int .i64 i) := VL5.out.cell 0
          have y1 : w5.cell? ⟨bl, 1, none⟩ = some (.int .i64 v) := VL5.out.cell 1
          have y2 : w5.cell? ⟨bl, 2, none⟩ = some (.slice A2 q c2') := VL5.out.cell 2
          clear hO x0 x1 x2 x3 hb5 HP4 HRP4 HB4 VL
          rcases z with _ | _
          · have HNX := Lib.hid (show npRun root n q (fun _ => none) (M0 root q) rs = npRun root n q (putM C (kI i) v) (lrnRun prf i (M, leafI i v) (List.range q)).1 (rs.drop (k + 1)) from by
              rw [HR.out, HDR.out, npRun, if_pos (by simp [HQV.out, HZ.out])]
              simp only [Int.toNat_natCast])
            go_wp2_with fail
            refine (learn_any G b0 (b0 + 1) q (1 + 21 * k) C M i v A2 c2' prf _ HP5.out HRP5.out hq10 (by omega) (by omega)).mono ?_
            rintro e w6 ⟨⟨u, rfl⟩, hp6, ho6⟩
            have HB6 := Lib.hid (HB5.out.trans (ho6.below (B := W0.heap.size) HB5.out.size (fun k e => by have := HB0.out; omega)))
            have HP6 := Lib.hid (hp6.mono (n' := 1 + 21 * (k + 1)) (by omega))
            clear hp6 ho6
            go_wp2
            go_roundw
            case rel => exact ⟨k + 1, _, _, by omega, by go_num, HP6, HNX, by rw [← HB0.out]; exact HB6⟩
            case measure => simp [intOf]; omega
          · by_cases hyv : y = v
            · have HNX := Lib.hid (show npRun root n q (fun _ => none) (M0 root q) rs = npRun root n q (putM C (kI i) v) (lrnRun prf i (M, leafI i v) (List.range q)).1 (rs.drop (k + 1)) from by
                rw [HR.out, HDR.out, npRun, if_pos (by simp [HQV.out, HZ.out, HY.out, hyv])]
                simp only [Int.toNat_natCast])
              have hd : (y != v) = false := by simpa using hyv
              clear hyv
              go_wp2_with fail
              refine (learn_any G b0 (b0 + 1) q (1 + 21 * k) C M i v A2 c2' prf _ HP5.out HRP5.out hq10 (by omega) (by omega)).mono ?_
              rintro e w6 ⟨⟨u, rfl⟩, hp6, ho6⟩
              have HB6 := Lib.hid (HB5.out.trans (ho6.below (B := W0.heap.size) HB5.out.size (fun k e => by have := HB0.out; omega)))
              have HP6 := Lib.hid (hp6.mono (n' := 1 + 21 * (k + 1)) (by omega))
              clear hp6 ho6
              go_wp2
              go_roundw
              case rel => exact ⟨k + 1, _, _, by omega, by go_num, HP6, HNX, by rw [← HB0.out]; exact HB6⟩
              case measure => simp [intOf]; omega
            · have HNO := Lib.hid (show npRun root n q (fun _ => none) (M0 root q) rs = none from by
                rw [HR.out, HDR.out, npRun, if_neg (by simp [HQV.out, HZ.out, HY.out, hyv])])
              have hd : (y != v) = true := by simpa using hyv
              clear hyv
              go_wp2
              go_ret2
              unfold RetPar
              rw [HNO.out]
              exact ⟨HB5.out, rfl⟩
    · obtain rfl : m = k := by omega
      have HT := Lib.hid (show npRun root n q (fun _ => none) (M0 root q) rs = some (C, M) from by
        rw [HR.out, List.drop_eq_nil_of_le (by rw [HLN.out]; omega)]
        unfold npRun
        rfl)
      have hb9 := HB0.out
      go_wp2
      go_ret2
      unfold RetPar
      rw [HT.out]
      exact ⟨HB.out, G, b0, b0 + 1, rfl, HP.out, by omega, by omega, by omega⟩
end Go.Proofs.Ytgelhcgaacnjcaa
