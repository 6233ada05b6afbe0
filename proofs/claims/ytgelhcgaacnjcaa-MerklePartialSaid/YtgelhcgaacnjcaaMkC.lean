/-
  WHAT IS PROVED HERE: the contract of package merkle's Verify. No condition but that the proof lies in memory, and that the tree is no larger than the statements' trees.
-/
import Derived.Test.YtgelhcgaacnjcaaMkB
namespace Go.Proofs.Ytgelhcgaacnjcaa
set_option linter.unusedVariables false
open Go.RowKit Go.Shelf

attribute [local go_sem] Oper.semAt_some

/-- the hash at the end of a path -/
def phs (prf : List Int) (i : Nat) (hs : Int) (ls : List Nat) : Int := ls.foldl (fun h l => jn (i / 2 ^ l) h (prf.getD l 0)) hs
theorem phs_snoc (prf : List Int) (i : Nat) (hs : Int) (ls : List Nat) (l : Nat) : phs prf i hs (ls ++ [l]) = jn (i / 2 ^ l) (phs prf i hs ls) (prf.getD l 0) := by simp [phs]
theorem lvs_snoc {h : Nat} (pre : List (Lv h)) (x : Lv h) : lvs (pre ++ [x]) = lvs pre ++ [x.1] := by simp [lvs]
/-- what Verify answers -/
@[irreducible] def verB (root n ix v : Int) (prf : List Int) : Bool := decide (0 ≤ ix ∧ ix < n ∧ prf.length = hgt n.toNat) && (phs prf ix.toNat (leafI ix v) (List.range (hgt n.toNat)) == root)
theorem verB_no {root n ix v : Int} {prf : List Int} (h : ¬ (0 ≤ ix ∧ ix < n ∧ prf.length = hgt n.toNat)) : verB root n ix v prf = false := by unfold verB; simp [h]
theorem verB_yes {root n ix v : Int} {prf : List Int} (h : 0 ≤ ix ∧ ix < n ∧ prf.length = hgt n.toNat) : verB root n ix v prf = (phs prf ix.toNat (leafI ix v) (List.range (hgt n.toNat)) == root) := by unfold verB; simp [h]
theorem hgt_le {n : Nat} (h : n ≤ 65536) : hgt n ≤ 16 := hgt_min (by omega)

section
variable (root : Int) (n : Nat) (ix v : Int) (A : Option Addr) (m c : Nat) (prf : List Int) (w : World)
set_option maxHeartbeats 1000000 in
theorem verify_no (hn : n ≤ 65536) (rd : Rd w w.heap.size 1 A m (prf.map (Value.int .u64))) (hno : ¬ (0 ≤ ix ∧ ix < n ∧ prf.length = hgt n)) :
    Calls Try.prog 16 #[.int .u64 root, .int .i64 n, .agg #[.int .i64 ix, .int .i64 v, .slice A m c]] w fun e w' => e = .returned (.bool (verB root n ix v prf)) ∧ Below w.heap.size w w' := by
  have hl : prf.length = m := by have := rd.1; simpa using this
  rw [verB_no (by simpa using hno)]
  rw [hl] at hno
  clear rd hl
  by_cases c1 : ix < 0
  · go_enter Try.func16, Try.ntmps16
    go_wp2_with fail
    refine (height_any n _ hn).mono ?_
    rintro e w_ ⟨rfl, rfl⟩
    go_wp2
    go_ret
    exact ⟨rfl, by (repeat (first | (with_reducible exact Below.refl _ _) | (with_reducible assumption) | (with_reducible refine b_drew ?_) | (with_reducible refine b_drewN ?_ _) | (with_reducible refine b_alloc ?_ _) | ((with_reducible refine b_set ?_ ?_ _); rotate_left; (focus (first | omega | (simp; done) | (simp; omega) | (simp at *; omega)))) | (with_reducible refine b_call ?_ (by with_reducible assumption))))⟩
  · by_cases c2 : (n : Int) ≤ ix
    · have d1 : decide (ix < 0) = false := by simpa using c1
      go_enter Try.func16, Try.ntmps16
      go_wp2_with fail
      refine (height_any n _ hn).mono ?_
      rintro e w_ ⟨rfl, rfl⟩
      go_wp2
      go_ret
      exact ⟨rfl, by (repeat (first | (with_reducible exact Below.refl _ _) | (with_reducible assumption) | (with_reducible refine b_drew ?_) | (with_reducible refine b_drewN ?_ _) | (with_reducible refine b_alloc ?_ _) | ((with_reducible refine b_set ?_ ?_ _); rotate_left; (focus (first | omega | (simp; done) | (simp; omega) | (simp at *; omega)))) | (with_reducible refine b_call ?_ (by with_reducible assumption))))⟩
    · have d1 : decide (ix < 0) = false := by simpa using c1
      have d2 : decide ((n : Int) ≤ ix) = false := by simpa using c2
      have hm : ¬ m = hgt n := fun h => hno ⟨by omega, by omega, h⟩
      obtain ⟨q, hq⟩ : ∃ q, hgt n = q := ⟨_, rfl⟩
      rw [hq] at hm
      have HQ := Lib.hid hq
      have d3 : ((m : Int) != (q : Int)) = true := by rw [bne_iff_ne]; omega
      clear hno c1 c2 hq
      go_enter Try.func16, Try.ntmps16
      go_wp2_with fail
      refine (height_any n _ hn).mono ?_
      rintro e w_ ⟨rfl, rfl⟩
      rw [HQ.out]
      go_wp2
      go_ret
      exact ⟨rfl, by (repeat (first | (with_reducible exact Below.refl _ _) | (with_reducible assumption) | (with_reducible refine b_drew ?_) | (with_reducible refine b_drewN ?_ _) | (with_reducible refine b_alloc ?_ _) | ((with_reducible refine b_set ?_ ?_ _); rotate_left; (focus (first | omega | (simp; done) | (simp; omega) | (simp at *; omega)))) | (with_reducible refine b_call ?_ (by with_reducible assumption))))⟩
set_option maxHeartbeats 2000000 in
set_option maxRecDepth 100000 in
theorem verify_in (i q : Nat) (hn : n ≤ 65536) (rd : Rd w w.heap.size 1 A q (prf.map (Value.int .u64))) (hi : i < n) (hq : hgt n = q) :
    CallsIn Fence.wide 3 Try.prog 16 #[.int .u64 root, .int .i64 n, .agg #[.int .i64 (i : Int), .int .i64 v, .slice A q c]] w fun e w' => e = .returned (.bool (phs prf i (leafI i v) (List.range q) == root)) ∧ Below w.heap.size w w' := by
  have hll : prf.length = q := by have := rd.1; simpa using this
  have RD := Lib.hid rd
  have HL := Lib.hid hll
  have hq16 : q ≤ 16 := by rw [← hq]; exact hgt_le hn
  have HQ := Lib.hid hq
  have d1 : decide ((i : Int) < 0) = false := by simp
  have d2 : decide ((n : Int) ≤ (i : Int)) = false := by simp; omega
  have d3 : ((q : Int) != (q : Int)) = false := by simp
  clear rd hll hq
  refine callsIn_of_wp_marks Try.func16 rfl trivial ?_ rfl
  simp only [Try.ntmps16, List.size_toArray, List.length_cons, List.length_nil, Nat.reduceAdd, Nat.reduceSub, Array.replicate_succ, Array.replicate_zero, List.push_toArray, List.append_toArray, List.nil_append, List.cons_append]
  gi_wp2_with fail
  refine ⟨trivial, (callsIn_wide.2 (height_any n _ hn)).mono ?_⟩
  rintro e w_ ⟨rfl, rfl⟩
  rw [HQ.out]
  gi_wp2_with fail
  refine ⟨trivial, (callsIn_wide.2 (leafHash_any (i : Int) v _)).mono ?_⟩
  rintro e w1 ⟨rfl, hb1⟩
  have V1 := Lib.hid ((Vr.new w 25 #[.int .i64 i, .int .i64 v, .slice A q c]).call hb1)
  obtain ⟨v1, v2, v3⟩ := V1.out.facts
  gi_wp2_with fail
  refine ⟨trivial, (path_make Fence.wide _ trivial rfl i q _).mono ?_⟩
  rintro e w2 ⟨rfl, rfl⟩
  gi_wp2_with fail
  refine name_in ?_
  intro X hX
  obtain ⟨bh, hbh⟩ : ∃ b, w1.heap.size = b := ⟨_, rfl⟩
  obtain ⟨bx, hbx⟩ : ∃ b, w.heap.size = b := ⟨_, rfl⟩
  have hB : Below w.heap.size w X := by rw [hX]; (repeat (first | (with_reducible exact Below.refl _ _) | (with_reducible assumption) | (with_reducible refine b_drew ?_) | (with_reducible refine b_drewN ?_ _) | (with_reducible refine b_alloc ?_ _) | ((with_reducible refine b_set ?_ ?_ _); rotate_left; (focus (first | omega | (simp; done) | (simp; omega) | (simp at *; omega)))) | (with_reducible refine b_call ?_ (by with_reducible assumption))))
  have hz1 := hb1.size
  simp only [World.size_alloc] at hz1
  have V8 : Vr X bh 22 #[.int .u64 (leafI i v)] := by rw [hX, ← hbh]; exact ((Vr.new w1 _ _).alloc _).alloc _
  have V5 : Vr X bx 25 #[.int .i64 i, .int .i64 v, .slice A q c] := by rw [hX, ← hbx]; exact ((V1.out.alloc _).alloc _).alloc _
  have VP1 : Vr X (bh + 1 + 1) 3 #[.int .i64 q] := by rw [hX, ← hbh]; exact vr_new3 w1 _ _ _ _
  have VP2 : Vr X (bh + 1) 3 #[.int .i64 i] := by rw [hX, ← hbh]; exact (vr_new2 w1 _ _ _).alloc _
  have P1 : X.cell? ⟨bh + 1 + 1, 0, none⟩ = some (.int .i64 q) ∧ bh + 1 + 1 < X.heap.size := ⟨VP1.cell 0, VP1.lt⟩
  have P2 : X.cell? ⟨bh + 1, 0, none⟩ = some (.int .i64 i) ∧ bh + 1 < X.heap.size := ⟨VP2.cell 0, VP2.lt⟩
  rw [hbh, hbx]
  rw [hbh, hbx] at hz1
  have hbb : bx ≠ bh := by omega
  have HB := Lib.hid hB
  have HV8 := Lib.hid V8
  have HV5 := Lib.hid V5
  have HRD := Lib.hid (RD.out.below hB (Nat.le_refl _))
  rw [hbx] at HRD
  clear hX hbh hb1 V1 v1 v2 v3 V8 V5 hB RD VP1 VP2
  refine wp_rf (w := X) (T := 64) (sl := 9) rfl (enters_of Try.func49 (by kernel_rfl) rfl) (path_stops Fence.wide 2 trivial rfl (by omega) (bh + 1 + 1) (bh + 1) i q (by omega) (by omega) X P1.2 P2.2 P1.1 P2.1) P1.2 P2.2
    (fun pre W => Only (· = bh) X W ∧ Vr W bh 22 #[.int .u64 (phs prf i (leafI i v) (lvs pre))]) ((ownFrom_only (Nat.le_refl _)).and (ownFrom_vr _ _ _ (fun pre => #[.int .u64 (phs prf i (leafI i v) (lvs pre))]))) ⟨Only.refl _ _, HV8.out⟩ (fun _ _ h => h.1.size) (fun x => #[.int .i64 (x.1 : Nat), .int .i64 ((i / 2 ^ x.1 : Nat) : Int)]) ?assign ?body ?done
  case assign =>
    intro l x W K hK
    unfold plv at hK ⊢
    gi_wp2
    exact hK
  case body =>
    rintro l pre x g W hg ⟨hO, hV⟩ hVg hlen
    unfold plv
    simp only [List.setIfInBounds_toArray, List.set_cons_zero, List.set_cons_succ]
    have hx : x.1 < q := x.2
    obtain ⟨b, o, hl, rfl, hb, hcell⟩ := (HRD.out.only hO (by have := HB.out.size; omega) (fun k hk => by omega)).openMap hx
    have hsz := hO.size
    have hne1 : ¬ b = bh := by omega
    have hne2 : ¬ g = bh := by have := HV8.out.lt; omega
    have z5 : W.cell? ⟨bx, 2, none⟩ = some (.slice (some ⟨b, o, none⟩) q c) := only_cell hO (HV5.out.cell 2) hbb
    have zg0 : W.cell? ⟨g, 0, none⟩ = some (.int .i64 (x.1 : Nat)) := hVg.cell 0
    have zg1 : W.cell? ⟨g, 1, none⟩ = some (.int .i64 ((i / 2 ^ x.1 : Nat) : Int)) := hVg.cell 1
    have hidx : (0 : Int) ≤ (x.1 : Int) ∧ (x.1 : Int) < (q : Int) := by omega
    obtain ⟨j1, j2⟩ := hidx
    have HPH := Lib.hid (phs_snoc prf i (leafI i v) (lvs pre) x.1)
    have HPG := Lib.hid (show prf.getD x.1 0 = prf[x.1] from by simp [List.getD, hl])
    obtain ⟨lv, hlv⟩ : ∃ y : Nat, x.1 = y := ⟨_, rfl⟩
    obtain ⟨p, hp⟩ : ∃ y, prf[x.1] = y := ⟨_, rfl⟩
    obtain ⟨k, hk⟩ : ∃ y : Nat, i / 2 ^ x.1 = y := ⟨_, rfl⟩
    obtain ⟨H, hH⟩ : ∃ y, phs prf i (leafI i v) (lvs pre) = y := ⟨_, rfl⟩
    obtain ⟨Z, rfl⟩ : ∃ Z : World, Z = W := ⟨_, rfl⟩
    rw [hp] at hcell HPG
    rw [HPG.out, hk, hH] at HPH
    rw [← lvs_snoc] at HPH
    rw [hH] at hV
    rw [hk] at zg1
    rw [hlv] at zg0 hcell j1 j2
    have HVZ := Lib.hid hV
    rw [hk, hlv]
    clear hlv hp hk hH HPG hVg hV hl hx
    gi_wp2
    refine region_in (by kernel_rfl) (by kernel_rfl) ?_
    refine take_at (i := 2) (some 40) (v := ?vg2) rfl rfl (by kernel_rfl) (by kernel_rfl) (by kernel_rfl) (fun _ _ _ h => h) (Or.inl ⟨by rfl, ?hg2⟩) ?rg2
    case hg2 => (intro w0; go_simp; try with_reducible rfl)
    simp only [Act.put, List.setIfInBounds_toArray, List.set_cons_zero, List.set_cons_succ]
    refine take_at (i := 4) (some 42) (v := ?vg3) rfl rfl (by kernel_rfl) (by kernel_rfl) (by kernel_rfl) (fun _ _ _ h => h) (Or.inl ⟨by rfl, ?hg3⟩) ?rg3
    case hg3 => (intro w0; go_simp; try with_reducible rfl)
    simp only [Act.put, List.setIfInBounds_toArray, List.set_cons_zero, List.set_cons_succ]
    refine wpAny_go (fun A0 L aa w => ∃ (v38 v39 v41 v43 v44 v45 v46 : Value), aa = fr A0 [(38, v38), (39, v39), (41, v41), (43, v43), (44, v44), (45, v45), (46, v46)] ∧ (L 9 = true → L 1 = true) ∧ (Only (· = bh) Z w) ∧ (Hid ((L 9 = false → Vr w bh 22 #[.int .u64 H]) ∧ (L 9 = true → Vr w bh 22 #[.int .u64 (jn k H p)]))) ∧ Hid (L 0 = true → v38 = Value.agg #[.int .i64 lv, .int .i64 k]) ∧ Hid (L 1 = true → v39 = Value.int .u64 H) ∧ Hid (L 3 = true → v41 = Value.slice (some ⟨b, o, none⟩) q c) ∧ Hid (L 5 = true → v43 = Value.int .i64 lv) ∧ Hid (L 6 = true → v44 = Value.pointer (some ⟨b, o + lv, none⟩)) ∧ Hid (L 7 = true → v45 = Value.int .u64 p) ∧ Hid (L 8 = true → v46 = Value.int .u64 (jn k H p))) [0, 1, 3, 5, 6, 7, 8, 9] (by kernel_rfl) (by kernel_rfl) ?a1I ?a1S ?a1D
    case a1I =>
      refine ⟨?a1v38, ?a1v39, ?a1v41, ?a1v43, ?a1v44, ?a1v45, ?a1v46, ?a1fr, no_yet (by kernel_rfl), o_drew (Only.refl _ _), Lib.hid ⟨fun _ => HVZ.out.drew, no_yet (by kernel_rfl)⟩, Lib.hid (no_yet (by kernel_rfl)), Lib.hid (no_yet (by kernel_rfl)), Lib.hid (no_yet (by kernel_rfl)), Lib.hid (no_yet (by kernel_rfl)), Lib.hid (no_yet (by kernel_rfl)), Lib.hid (no_yet (by kernel_rfl)), Lib.hid (no_yet (by kernel_rfl))⟩
      case a1fr => (simp only [fr, List.foldl_cons, List.foldl_nil, Act.put, List.setIfInBounds_toArray, List.set_cons_zero, List.set_cons_succ]; rfl)
    case a1S =>
      refine Steps.go (i := 0) (o := _) rfl ?a1s0 (Steps.go (i := 1) (o := _) rfl ?a1s1 (Steps.go (i := 3) (o := _) rfl ?a1s3 (Steps.go (i := 5) (o := _) rfl ?a1s5 (Steps.go (i := 6) (o := _) rfl ?a1s6 (Steps.go (i := 7) (o := _) rfl ?a1s7 (Steps.go (i := 8) (o := _) rfl ?a1s8 (Steps.go (i := 9) (o := _) rfl ?a1s9 Steps.nil)))))))
      · rintro L aa w h0 hd ⟨v38, v39, v41, v43, v44, v45, v46, rfl, hY, hO2, hV2, f0, f1, f3, f5, f6, f7, f8⟩ K hK
        simp only [fr, List.foldl_cons, List.foldl_nil, Act.put, List.setIfInBounds_toArray, List.set_cons_zero, List.set_cons_succ]
        have y0 := only_cell hO2 zg0 hne2
        have y1 := only_cell hO2 zg1 hne2
        go_simp
        exact hK _ _ ⟨(Value.agg #[.int .i64 lv, .int .i64 k]), v39, v41, v43, v44, v45, v46, (by simp only [fr, List.foldl_cons, List.foldl_nil, Act.put, List.setIfInBounds_toArray, List.set_cons_zero, List.set_cons_succ]), hY, hO2, hV2, Lib.hid (fun _ => rfl), f1, f3, f5, f6, f7, f8⟩
      · rintro L aa w h0 hd ⟨v38, v39, v41, v43, v44, v45, v46, rfl, hY, hO2, hV2, f0, f1, f3, f5, f6, f7, f8⟩ K hK
        simp only [fr, List.foldl_cons, List.foldl_nil, Act.put, List.setIfInBounds_toArray, List.set_cons_zero, List.set_cons_succ]
        have e9 : L 9 = false := by rcases h : L 9 with _ | _ <;> first | rfl | exact absurd (hY h) (by simp [h0])
        have y0 : w.cell? ⟨bh, 0, none⟩ = some (.int .u64 H) := (hV2.out.1 e9).cell 0
        go_simp
        exact hK _ _ ⟨v38, (Value.int .u64 H), v41, v43, v44, v45, v46, (by simp only [fr, List.foldl_cons, List.foldl_nil, Act.put, List.setIfInBounds_toArray, List.set_cons_zero, List.set_cons_succ]), fun _ => rfl, hO2, hV2, f0, Lib.hid (fun _ => rfl), f3, f5, f6, f7, f8⟩
      · rintro L aa w h0 hd ⟨v38, v39, v41, v43, v44, v45, v46, rfl, hY, hO2, hV2, f0, f1, f3, f5, f6, f7, f8⟩ K hK
        simp only [fr, List.foldl_cons, List.foldl_nil, Act.put, List.setIfInBounds_toArray, List.set_cons_zero, List.set_cons_succ]
        have y0 := only_cell hO2 z5 hbb
        go_simp
        exact hK _ _ ⟨v38, v39, (Value.slice (some ⟨b, o, none⟩) q c), v43, v44, v45, v46, (by simp only [fr, List.foldl_cons, List.foldl_nil, Act.put, List.setIfInBounds_toArray, List.set_cons_zero, List.set_cons_succ]), hY, hO2, hV2, f0, f1, Lib.hid (fun _ => rfl), f5, f6, f7, f8⟩
      · rintro L aa w h0 hd ⟨v38, v39, v41, v43, v44, v45, v46, rfl, hY, hO2, hV2, f0, f1, f3, f5, f6, f7, f8⟩ K hK
        simp only [fr, List.foldl_cons, List.foldl_nil, Act.put, List.setIfInBounds_toArray, List.set_cons_zero, List.set_cons_succ]
        have y0 := only_cell hO2 zg0 hne2
        go_simp
        exact hK _ _ ⟨v38, v39, v41, (Value.int .i64 lv), v44, v45, v46, (by simp only [fr, List.foldl_cons, List.foldl_nil, Act.put, List.setIfInBounds_toArray, List.set_cons_zero, List.set_cons_succ]), hY, hO2, hV2, f0, f1, f3, Lib.hid (fun _ => rfl), f6, f7, f8⟩
      · rintro L aa w h0 hd ⟨v38, v39, v41, v43, v44, v45, v46, rfl, hY, hO2, hV2, f0, f1, f3, f5, f6, f7, f8⟩ K hK
        obtain rfl := f3.out (hd 3 (by kernel_rfl))
        obtain rfl := f5.out (hd 5 (by kernel_rfl))
        simp only [fr, List.foldl_cons, List.foldl_nil, Act.put, List.setIfInBounds_toArray, List.set_cons_zero, List.set_cons_succ]
        go_simp
        exact hK _ _ ⟨v38, v39, (Value.slice (some ⟨b, o, none⟩) q c), (Value.int .i64 lv), (Value.pointer (some ⟨b, o + lv, none⟩)), v45, v46, (by simp only [fr, List.foldl_cons, List.foldl_nil, Act.put, List.setIfInBounds_toArray, List.set_cons_zero, List.set_cons_succ]), hY, hO2, hV2, f0, f1, f3, f5, Lib.hid (fun _ => rfl), f7, f8⟩
      · rintro L aa w h0 hd ⟨v38, v39, v41, v43, v44, v45, v46, rfl, hY, hO2, hV2, f0, f1, f3, f5, f6, f7, f8⟩ K hK
        obtain rfl := f6.out (hd 6 (by kernel_rfl))
        simp only [fr, List.foldl_cons, List.foldl_nil, Act.put, List.setIfInBounds_toArray, List.set_cons_zero, List.set_cons_succ]
        have y0 := only_cell hO2 hcell hne1
        go_simp
        exact hK _ _ ⟨v38, v39, v41, v43, (Value.pointer (some ⟨b, o + lv, none⟩)), (Value.int .u64 p), v46, (by simp only [fr, List.foldl_cons, List.foldl_nil, Act.put, List.setIfInBounds_toArray, List.set_cons_zero, List.set_cons_succ]), hY, hO2, hV2, f0, f1, f3, f5, f6, Lib.hid (fun _ => rfl), f8⟩
      · rintro L aa w h0 hd ⟨v38, v39, v41, v43, v44, v45, v46, rfl, hY, hO2, hV2, f0, f1, f3, f5, f6, f7, f8⟩ K hK
        obtain rfl := f0.out (hd 0 (by kernel_rfl))
        obtain rfl := f1.out (hd 1 (by kernel_rfl))
        obtain rfl := f7.out (hd 7 (by kernel_rfl))
        simp only [fr, List.foldl_cons, List.foldl_nil, Act.put, List.setIfInBounds_toArray, List.set_cons_zero, List.set_cons_succ]
        go_simp
        refine (join_any lv k H p _).mono ?_
        rintro e w3 ⟨rfl, hb3⟩
        exact hK _ _ ⟨(Value.agg #[.int .i64 lv, .int .i64 k]), (Value.int .u64 H), v41, v43, v44, (Value.int .u64 p), (Value.int .u64 (jn k H p)), (by simp only [fr, List.foldl_cons, List.foldl_nil, Act.put, List.setIfInBounds_toArray, List.set_cons_zero, List.set_cons_succ]), hY, o_below hO2 hb3, Lib.hid ⟨fun h => (hV2.out.1 h).call hb3, fun h => (hV2.out.2 h).call hb3⟩, f0, f1, f3, f5, f6, f7, Lib.hid (fun _ => rfl)⟩
      · rintro L aa w h0 hd ⟨v38, v39, v41, v43, v44, v45, v46, rfl, hY, hO2, hV2, f0, f1, f3, f5, f6, f7, f8⟩ K hK
        obtain rfl := f8.out (hd 8 (by kernel_rfl))
        simp only [fr, List.foldl_cons, List.foldl_nil, Act.put, List.setIfInBounds_toArray, List.set_cons_zero, List.set_cons_succ]
        have d1 := hd 1 (by kernel_rfl)
        have v0 := hV2.out.1 h0
        have HV0 := Lib.hid v0
        have y0 : w.cell? ⟨bh, 0, none⟩ = some (.int .u64 H) := v0.cell 0
        have y1 := v0.frozen 0
        have y2 := v0.lt
        clear v0
        go_simp
        exact hK _ _ ⟨v38, v39, v41, v43, v44, v45, (Value.int .u64 (jn k H p)), (by simp only [fr, List.foldl_cons, List.foldl_nil, Act.put, List.setIfInBounds_toArray, List.set_cons_zero, List.set_cons_succ]), fun _ => d1, o_set hO2 0 _, Lib.hid ⟨(fun h => by cases h), fun _ => HV0.out.set 0 _⟩, f0, f1, f3, f5, f6, f7, f8⟩
    case a1D =>
      rintro L aa w hL ⟨v38, v39, v41, v43, v44, v45, v46, rfl, hY, hO2, hV2, f0, f1, f3, f5, f6, f7, f8⟩
      obtain rfl := f0.out (hL 0 (by decide))
      obtain rfl := f1.out (hL 1 (by decide))
      obtain rfl := f3.out (hL 3 (by decide))
      obtain rfl := f5.out (hL 5 (by decide))
      obtain rfl := f6.out (hL 6 (by decide))
      obtain rfl := f7.out (hL 7 (by decide))
      obtain rfl := f8.out (hL 8 (by decide))
      have l9 := hL 9 (by decide)
      simp only [fr, List.foldl_cons, List.foldl_nil, Act.put, List.setIfInBounds_toArray, List.set_cons_zero, List.set_cons_succ]
      refine onlyN_mk ?_
      gi_wp2
      exact ⟨keepsFrom_only hO2 (fun k e => by have := HV8.out.lt; omega), Kp2.of_only hO2 (by omega) (by omega) (by omega) (by omega), hO.trans hO2, by rw [HPH.out]; exact hV2.out.2 l9⟩
  case done =>
    rintro D ys W hD hys ⟨hO, hV⟩ hK
    rw [hys] at hV
    obtain ⟨H, hH⟩ : ∃ y, phs prf i (leafI i v) (List.range q) = y := ⟨_, rfl⟩
    rw [hH] at hV
    have HH := Lib.hid hH
    have y0 := hV.cell 0
    have hb2 := HB.out.trans (hO.below (B := w.heap.size) HB.out.size (fun k e => by omega))
    clear hys hH hV
    gi_wp2
    refine ⟨by simp, .inl ⟨_, _, rfl, run_takeDeferred hK, ?_⟩⟩
    exact ⟨_, results_tmp rfl _ _ _, by rw [HH.out]; rfl, hb2.trans (belowK_b (w := w) (Nat.le_refl _) W D _ _ (by have := HB.out.size; omega) hK rfl rfl)⟩
theorem verify_any (hn : n ≤ 65536) (rd : Rd w w.heap.size 1 A m (prf.map (Value.int .u64))) :
    Calls Try.prog 16 #[.int .u64 root, .int .i64 n, .agg #[.int .i64 ix, .int .i64 v, .slice A m c]] w fun e w' => e = .returned (.bool (verB root n ix v prf)) ∧ Below w.heap.size w w' := by
  by_cases h : 0 ≤ ix ∧ ix < n ∧ prf.length = hgt n
  · obtain ⟨i, rfl⟩ := Int.eq_ofNat_of_zero_le h.1
    have hl : prf.length = m := by have := rd.1; simpa using this
    have hm : hgt n = m := by rw [← hl]; exact h.2.2.symm
    rw [verB_yes (by simpa using h)]
    simp only [Int.toNat_natCast]
    rw [hm]
    exact callsIn_wide.1 (verify_in root n v A c prf w i m hn rd (by omega) hm)
  · exact verify_no root n ix v A m c prf w hn rd h
end
end Go.Proofs.Ytgelhcgaacnjcaa
