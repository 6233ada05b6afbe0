/-
  WHAT IS PROVED HERE: the walk of the law MerkleVerifies: it returns true at every input and leaves old memory as it was. Conditions: the arguments' lengths are a machine's.
-/
import Derived.Test.YtgelhcgaacnjcaaMkO
import Derived.Lib.SmallJoins
import Derived.Deep.Cut
import Derived.Deep.CutRange
namespace Go.Proofs.Ytgelhcgaacnjcaa
set_option linter.unusedVariables false
open Go.ChangeShapes Go.WideShapes Go.ChangeAt Go.RowKit

/-- A slice of integers that came in as a part of a struct. -/
theorem rd_trod {H : Type} {enc : TypeId × Value → H} {P : Program} {W : World} {t e : TypeId} {k : IntKind} {v : Value} {fuel : Nat} {x : DataW H × List MemPlace} (ht : P.underlying t = some (.slice e)) (he : P.underlying e = some (.int k)) (hc : P.cellsOf e = 1)
    (hf : DataW.trod enc P W 0 (fun _ => true) true fuel t [v] = some x) :
    ∃ (A : Option Addr) (n c : Nat) (l : List Int), v = .slice A n c ∧ n ≤ c ∧ c ≤ maxLen ∧ l.length = n ∧ Rd W W.heap.size 1 A n (l.map (Value.int k)) ∧ ∀ x ∈ l, (Lit.int k x).wf = true := by
  rcases open_ints ht he hc hf with ⟨hcs, hx⟩ | ⟨a, len', cap', zs, hcs, _, hl, hm, hz, hx, hcell, hwz⟩
  · injection hcs with hcs _
    exact ⟨none, 0, 0, [], hcs, Nat.le_refl _, by simp [maxLen], rfl, Rd.nil _, by simp⟩
  · injection hcs with hcs _
    have hz : zs.length = cap' := hz
    refine ⟨some a, len', cap', zs.take len', hcs, hl, hm, by rw [List.length_take]; omega, ⟨by simp; omega, fun hne => ?_⟩, fun x hx => hwz x (List.mem_of_mem_take hx)⟩
    have h0 : 0 < zs.length := by
      rcases Nat.eq_zero_or_pos zs.length with h0 | h0
      · have : zs = [] := List.eq_nil_of_length_eq_zero h0
        subst this
        simp at hne
      · exact h0
    obtain ⟨b, off, rfl, hc⟩ := ints_at hcell h0
    refine ⟨b, off, rfl, World.block_lt_of_cell? W ⟨b, off + 0, none⟩ (hc 0 h0), fun j u hu => ?_⟩
    have hj : j < len' ∧ j < zs.length := by
      obtain ⟨hj, _⟩ := List.getElem?_eq_some_iff.1 hu
      simp at hj
      omega
    rw [hc j hj.2]
    simp [hj.1, hj.2] at hu
    simp [List.getD, hj.2, hu]
theorem rd_at0 {X W : World} {sz n : Nat} {A : Option Addr} {xs : List Value} (h : Rd X X.heap.size sz A n xs) (hb : Below X.heap.size X W) : Rd W W.heap.size sz A n xs := (h.below hb (Nat.le_refl _)).more hb.size
theorem own_lit0 (w : World) (e : TypeId) (sz : Nat) : (w.alloc (.cells #[] e)).ownsRow w.heap.size e sz (.slice (some ⟨w.heap.size, 0, none⟩) 0 0) 0 [] :=
  own_shut (Nat.le_refl _) (Vr.new w e #[]) (by simp) (by simp) (by omega) (by simp [maxLen]) (by simp)
set_option maxRecDepth 100000 in
set_option maxHeartbeats 4000000 in
theorem mverifies_walk (root n ix v : Int) (A : Option Addr) (nP cP : Nat) (lP : List Int) (A3 : Option Addr) (n3 c3 : Nat) (l3 : List Int) (i how by_ : Int) (w : World)
    (hn : I64 n) (rdP : Rd w w.heap.size 1 A nP (lP.map (Value.int .u64))) (hnP : nP ≤ cP) (hcP : cP ≤ maxLen) (rd3 : Rd w w.heap.size 1 A3 n3 (l3.map (Value.int .i64))) (hn3 : n3 ≤ c3) (hc3 : c3 ≤ maxLen) (hi : I64 i) (hh : I64 how) (hb : I64 by_) :
    Calls Try.prog 3 #[.int .u64 root, .int .i64 n, .agg #[.int .i64 ix, .int .i64 v, .slice A nP cP], .slice A3 n3 c3, .int .i64 i, .int .i64 how, .int .i64 by_] w fun e w' => e = .returned (.bool true) ∧ Below w.heap.size w w' := by
  unfold maxLen at hcP
  obtain ⟨p, hp⟩ : ∃ p, min nP 8 = p := ⟨_, rfl⟩
  have hp8 : p ≤ 8 := by omega
  have hpn : p ≤ nP := by omega
  have hmm : min (nP : Int) 8 = (p : Int) := by omega
  have RP0 := Lib.hid (show Rd w w.heap.size 1 A p ((lP.take p).map (Value.int .u64)) from by have := rdP.take hpn; rw [Nat.mul_one, ← List.map_take] at this; exact this)
  have R3 := Lib.hid rd3
  have HC3 := Lib.hid (And.intro hn3 hc3)
  have HI := Lib.hid hi
  have HH := Lib.hid hh
  have HBy := Lib.hid hb
  have HNn := Lib.hid hn
  have hsl := fun (W : World) => run_slice_to slU64b A nP cP .i64 (p : Int) (by omega) (by omega) W
  simp only [Int.toNat_natCast] at hsl
  clear hp rdP rd3 hn3 hc3 hi hh hb hn
  obtain ⟨pr, hpr⟩ : ∃ pr, lP.take p = pr := ⟨_, rfl⟩
  rw [hpr] at RP0
  clear hpr
  have OL := Lib.hid (show ((w.alloc (.cells #[.int .i64 ix, .int .i64 v, .slice A nP cP] 25)).alloc (.cells #[] 22)).ownsRow (w.heap.size + 1) 22 1 (.slice (some ⟨w.heap.size + 1, 0, none⟩) 0 0) 0 [] from by
    have h := own_lit0 (w.alloc (.cells #[.int .i64 ix, .int .i64 v, .slice A nP cP] 25)) 22 1
    rw [World.size_alloc] at h
    exact h)
  go_enter Try.func3, Try.ntmps3
  go_upto_region 2 with (at_builtin; refine wpList_app _ rfl (.tmp 21) (.tmp 28) slU64b rfl (v := .slice (some ⟨w.heap.size + 1, 0, none⟩) 0 0) rfl OL.out rfl (rd_step (rd_step RP0.out (b_alloc (Below.refl _ _) _)) (b_alloc (Below.refl _ _) _)) (ints_one _ _) p (Nat.zero_add _) (by unfold maxLen; omega) (by omega) (by simp) ?_; intro A1 c1 w1 g1 g2 g3 g4 g5; have VB := ((Vr.new w 25 #[.int .i64 ix, .int .i64 v, .slice A nP cP]).alloc (.cells #[] 22)).grown g4 (by simp [Value.ownBlock]); have x0 := VB.cell 2; have x1 := VB.frozen 2; have x2 := VB.lt)
  have OP := Lib.hid g3
  have B1 := Lib.hid (below_app (b_alloc (b_alloc (Below.refl w.heap.size w) (.cells #[.int .i64 ix, .int .i64 v, .slice A nP cP] 25)) (.cells #[] 22)) OL.out g4 (by omega) (by simp; omega))
  have VB2 := VB.set 2 (.slice A1 p c1)
  have hlt1 := VB.lt
  refine name_world ?_
  intro X1 hX1
  have VR := Lib.hid (show Vr X1 w.heap.size 25 #[.int .i64 ix, .int .i64 v, .slice A1 p c1] from by rw [hX1]; exact VB2)
  have RP1 := Lib.hid (show Rd X1 X1.heap.size 1 A1 p (pr.map (Value.int .u64)) from by
    rw [hX1]
    have h := rd_own g3
    rw [List.nil_append] at h
    refine ⟨h.1, fun hne => ?_⟩
    obtain ⟨gb, cur, eA, hgb, _⟩ := own_open g3 (by have h1 := h.1; have := List.length_pos_iff.2 hne; omega)
    obtain ⟨b, o, e, hb, hc⟩ := h.2 hne
    refine ⟨b, o, e, by rw [World.size_setCell]; exact hb, fun j u hu => ?_⟩
    rw [eA] at e
    injection e with e
    injection e with e1 e2
    subst e1 e2
    exact (World.cell?_of_block (w := w1) (a := ⟨gb, 0 + j, none⟩) (Below.heap_setCell _ _ _ _ (by show gb ≠ w.heap.size; omega))).trans (hc j u hu))
  have BX1 := Lib.hid (show Below w.heap.size w X1 from by rw [hX1]; exact B1.out.setCell (p := ⟨w.heap.size, 2, none⟩) (Nat.le_refl _) _)
  clear hX1 VB VB2 x0 x1 x2 hlt1 g1 g2 g3 g4 g5 OP B1 OL hsl hmm
  obtain ⟨g, hg⟩ : ∃ g, w.heap.size = g := ⟨_, rfl⟩
  rw [hg] at VR ⊢
  have HG := Lib.hid hg
  clear hg
  have R3' := Lib.hid (R3.out.below BX1.out (Nat.le_refl _))
  go_wp2_with fail
  refine (cells_any A3 n3 c3 l3 _ (R3'.out.more BX1.out.size) HC3.out.1 HC3.out.2).mono ?_
  obtain ⟨q, hq⟩ : ∃ q, min n3 20 = q := ⟨_, rfl⟩
  have hq20 : q ≤ 20 := by omega
  rw [hq]
  obtain ⟨cs, hcs⟩ : ∃ cs, l3.take 20 = cs := ⟨_, rfl⟩
  rw [hcs]
  rintro e w2 ⟨A4, c4, rfl, k1, k2, own4, hb2⟩
  have R4 := Lib.hid (rd_own own4)
  have HCL := Lib.hid (show cs.length = q from by have := own4.1; simpa using this)
  have VR2 := Lib.hid (VR.out.call hb2)
  have RP2 := Lib.hid (rd_step RP1.out hb2)
  have B2 := Lib.hid (b_call BX1.out hb2)
  clear hq hcs own4 hb2 R3 R3' VR RP1 BX1 k1 k2
  have ha := around_bd i ((q : Int) + 1) (by omega)
  go_wp2_with fail
  refine (around_any i ((q : Int) + 1) _ HI.out.1 HI.out.2 (by omega) (by omega)).mono ?_
  rintro e w_ ⟨rfl, rfl⟩
  obtain ⟨k, hk⟩ : ∃ k : Int, around i ((q : Int) + 1) = k := ⟨_, rfl⟩
  rw [hk]
  clear ha hk
  go_wp2_with fail
  refine (rprove_any A4 q c4 cs k _ R4.out (by omega)).mono ?_
  obtain ⟨xi, xv, xp, hx⟩ : ∃ a b c, lfOf cs k = (a, b, c) := ⟨_, _, _, rfl⟩
  rw [hx]
  have hxp : xp.length ≤ 1000 := by
    have h : xp = (lfOf cs k).2.2 := by rw [hx]
    rw [h]
    unfold lfOf
    split
    · rw [prfV_len, List.length_range]
      have := hgt_min (n := cs.length) (j := 10) (by rw [HCL.out]; omega)
      omega
    · simp
  rintro e w3 ⟨Ax, cx, rfl, own5, k3, k4, hb3⟩
  obtain ⟨xm, hxm⟩ : ∃ m, xp.length = m := ⟨_, rfl⟩
  have HXM := Lib.hid hxm
  have hxm9 : xm ≤ 1000 := by rw [← hxm]; exact hxp
  clear hxp
  simp only [hxm] at own5 k3 ⊢
  have RX3 := Lib.hid (rd_own own5)
  have VR3 := Lib.hid (VR2.out.call hb3)
  have RP3 := Lib.hid (rd_step RP2.out hb3)
  have R5 := Lib.hid (rd_step R4.out hb3)
  have B3 := Lib.hid (b_call B2.out hb3)
  clear hx hxm own5 hb3 VR2 RP2 R4 B2
  go_upto_region 5 with (fail)
  refine name_world ?_
  intro X4 hX4
  obtain ⟨b17, hb17⟩ : ∃ b, w3.heap.size = b := ⟨_, rfl⟩
  have hb4 : Below w3.heap.size w3 X4 := by rw [hX4]; (repeat (first | (with_reducible exact Below.refl _ _) | (with_reducible assumption) | (with_reducible refine b_drew ?_) | (with_reducible refine b_drewN ?_ _) | (with_reducible refine b_alloc ?_ _) | ((with_reducible refine b_set ?_ ?_ _); rotate_left; (focus (first | omega | (simp; done) | (simp; omega) | (simp at *; omega)))) | (with_reducible refine b_call ?_ (by with_reducible assumption))))
  have V17 := Lib.hid (show Vr X4 b17 25 #[.int .i64 xi, .int .i64 xv, .slice Ax xm cx] from by rw [hX4, ← hb17]; exact Vr.new _ _ _)
  have VR4 := Lib.hid (VR3.out.call hb4)
  have RP4 := Lib.hid (rd_step RP3.out hb4)
  have RX4 := Lib.hid (rd_step RX3.out hb4)
  have R6 := Lib.hid (rd_step R5.out hb4)
  have B4 := Lib.hid (b_call B3.out hb4)
  rw [hb17]
  clear hX4 hb4 hb17 VR3 RP3 RX3 R5 B3
  have z0 := V17.out.cell 0
  have z1 := V17.out.cell 1
  have z2 := V17.out.cell 2
  go_wp2_with fail
  refine (bent_any xi xv Ax xm cx xp how by_ _ RX4.out hxm9 HH.out HBy.out).mono ?_
  obtain ⟨yi, yv, yp, hy⟩ : ∃ a b c, bentOf xi xv xp (around how (2 + xp.length)) (1 + around by_ 1000000) = (a, b, c) := ⟨_, _, _, rfl⟩
  rw [hy]
  rintro e w5 ⟨Ay, cy, rfl, own7, k5, k6, hb5⟩
  obtain ⟨ym, hym⟩ : ∃ m, yp.length = m := ⟨_, rfl⟩
  have HYM := Lib.hid hym
  simp only [hym] at own7 k5 ⊢
  have RY5 := Lib.hid (rd_own own7)
  have V17b := Lib.hid (V17.out.call hb5)
  have VR5 := Lib.hid (VR4.out.call hb5)
  have RP5 := Lib.hid (rd_step RP4.out hb5)
  have RX5 := Lib.hid (rd_step RX4.out hb5)
  have R7 := Lib.hid (rd_step R6.out hb5)
  have B5 := Lib.hid (b_call B4.out hb5)
  clear hy hym own7 hb5 V17 VR4 RP4 RX4 R6 B4 z0 z1 z2
  go_upto_region 6 with (fail)
  refine name_world ?_
  intro X6 hX6
  obtain ⟨b18, hb18⟩ : ∃ b, w5.heap.size = b := ⟨_, rfl⟩
  have hb6 : Below w5.heap.size w5 X6 := by rw [hX6]; (repeat (first | (with_reducible exact Below.refl _ _) | (with_reducible assumption) | (with_reducible refine b_drew ?_) | (with_reducible refine b_drewN ?_ _) | (with_reducible refine b_alloc ?_ _) | ((with_reducible refine b_set ?_ ?_ _); rotate_left; (focus (first | omega | (simp; done) | (simp; omega) | (simp at *; omega)))) | (with_reducible refine b_call ?_ (by with_reducible assumption))))
  have V18 := Lib.hid (show Vr X6 b18 25 #[.int .i64 yi, .int .i64 yv, .slice Ay ym cy] from by rw [hX6, ← hb18]; exact Vr.new _ _ _)
  have V17 := Lib.hid (V17b.out.call hb6)
  have VR6 := Lib.hid (VR5.out.call hb6)
  have RP6 := Lib.hid (rd_step RP5.out hb6)
  have RX6 := Lib.hid (rd_step RX5.out hb6)
  have RY6 := Lib.hid (rd_step RY5.out hb6)
  have R8 := Lib.hid (rd_step R7.out hb6)
  have B6 := Lib.hid (b_call B5.out hb6)
  rw [hb18]
  clear hX6 hb6 hb18 V17b VR5 RP5 RX5 RY5 R7 B5
  go_wp2_with fail
  refine (rroot_any A4 q c4 cs _ R8.out (by omega)).mono ?_
  obtain ⟨own, hown⟩ : ∃ o, nV cs (hgt cs.length) 0 = o := ⟨_, rfl⟩
  rw [hown]
  rintro e w7 ⟨rfl, hb7⟩
  have V17' := Lib.hid (V17.out.call hb7)
  have V18' := Lib.hid (V18.out.call hb7)
  have VR7 := Lib.hid (VR6.out.call hb7)
  have RP := Lib.hid (rd_step RP6.out hb7)
  have RX := Lib.hid (rd_step RX6.out hb7)
  have RY := Lib.hid (rd_step RY6.out hb7)
  have BX := Lib.hid (b_call B6.out hb7)
  clear hown hb7 V17 V18 VR6 RP6 RX6 RY6 R8 B6
  have ha := around_bd n 65537 (by omega)
  go_wp2_with fail
  refine (around_any n 65537 _ HNn.out.1 HNn.out.2 (by omega) (by omega)).mono ?_
  rintro e w_ ⟨rfl, rfl⟩
  obtain ⟨N, hN⟩ : ∃ N : Nat, around n 65537 = (N : Int) := ⟨(around n 65537).toNat, by omega⟩
  rw [hN] at ha ⊢
  have hN1 : N ≤ 65536 := by omega
  clear ha hN
  go_upto_region 8 with (fail)
  obtain ⟨X, rfl⟩ : ∃ W : World, W = w7 := ⟨_, rfl⟩
  have r0 := VR7.out.cell 0
  have r1 := VR7.out.cell 1
  have r2 := VR7.out.cell 2
  have x0 := V17'.out.cell 0
  have x1 := V17'.out.cell 1
  have x2 := V17'.out.cell 2
  go_cut [70] from 49 to 70 (fun s70 wx => s70 = .bool false ∧ Hid (Below X.heap.size X wx))
  case first =>
    have B0 : Below X.heap.size X X.drew := b_drew (Below.refl _ _)
    refine wp_region_any (by kernel_rfl) ?_
    change wpAny _ _ _ _ _ _ _ (World.drew _)
    refine take_at (i := 0) (some 49) (v := ?vg58) rfl rfl (by kernel_rfl) (by kernel_rfl) (by kernel_rfl) (fun _ _ _ h => h) (Or.inl ⟨by rfl, ?hg58⟩) ?rg58
    case hg58 => (intro w0; go_simp; try with_reducible rfl)
    simp only [Act.put, List.setIfInBounds_toArray, List.set_cons_zero, List.set_cons_succ]
    refine take_at (i := 1) (some 50) (v := ?vg59) rfl rfl (by kernel_rfl) (by kernel_rfl) (by kernel_rfl) (fun _ _ _ h => h) (Or.inl ⟨by rfl, ?hg59⟩) ?rg59
    case hg59 => (intro w0; go_simp; try with_reducible rfl)
    simp only [Act.put, List.setIfInBounds_toArray, List.set_cons_zero, List.set_cons_succ]
    refine take_at (i := 4) (some 53) (v := ?vg60) rfl rfl (by kernel_rfl) (by kernel_rfl) (by kernel_rfl) (fun _ _ _ h => h) (Or.inl ⟨by rfl, ?hg60⟩) ?rg60
    case hg60 => (intro w0; go_simp; try with_reducible rfl)
    simp only [Act.put, List.setIfInBounds_toArray, List.set_cons_zero, List.set_cons_succ]
    refine take_at (i := 5) (some 54) (v := ?vg61) rfl rfl (by kernel_rfl) (by kernel_rfl) (by kernel_rfl) (fun _ _ _ h => h) (Or.inl ⟨by rfl, ?hg61⟩) ?rg61
    case hg61 => (intro w0; go_simp; try with_reducible rfl)
    simp only [Act.put, List.setIfInBounds_toArray, List.set_cons_zero, List.set_cons_succ]
    refine wpAny_ready (rs := [2, 6]) (by kernel_rfl) (by simp) ?_
    refine AllReady.cons (o := _) rfl (fun K hK => ?_) (AllReady.cons (o := _) rfl (fun K hK => ?_) AllReady.nil)
    · first | (have kr0 := cell_keep B0 r0; have kr1 := cell_keep B0 r1; have kr2 := cell_keep B0 r2; go_simp; refine hK _ _ ?_)
      clear hK K
      refine wpAny_ready (rs := [3, 6]) (by kernel_rfl) (by simp) ?_
      refine AllReady.cons (o := _) rfl (fun K hK => ?_) (AllReady.cons (o := _) rfl (fun K hK => ?_) AllReady.nil)
      · go_simp
        first | (have hrd := rd_at0 RP.out B0; refine (verify_any root N ix v A1 p c1 pr X.drew (by omega) hrd).mono ?_)
        rintro e w52 ⟨rfl, hb52⟩
        have B52 : Below X.heap.size X w52 := by first | exact b_call B0 hb52
        clear hb52
        refine hK _ _ ?_
        clear hK K
        refine wpAny_ready (rs := [6]) (by kernel_rfl) (by simp) ?_
        refine AllReady.cons (o := _) rfl (fun K hK => ?_) AllReady.nil
        · first | (have kr0 := cell_keep B52 r0; have kr1 := cell_keep B52 r1; have kr2 := cell_keep B52 r2; go_simp; refine hK _ _ ?_) | (have kr0 := cell_keep B0 r0; have kr1 := cell_keep B0 r1; have kr2 := cell_keep B0 r2; go_simp; refine hK _ _ ?_)
          clear hK K
          refine wpAny_ready (rs := [7]) (by kernel_rfl) (by simp) ?_
          refine AllReady.cons (o := _) rfl (fun K hK => ?_) AllReady.nil
          · go_simp
            first | (have hrd := rd_at0 RP.out B52; refine (rverify_any root N ix v A1 p c1 pr w52 (by omega) hrd).mono ?_)
            rintro e w56 ⟨rfl, hb56⟩
            have B56 : Below X.heap.size X w56 := by first | exact b_call B52 hb56
            clear hb56
            refine hK _ _ ?_
            clear hK K
            refine take_at (i := 8) (some 57) (v := ?vg62) rfl rfl (by kernel_rfl) (by kernel_rfl) (by kernel_rfl) (fun _ _ _ h => h) (Or.inl ⟨by rfl, ?hg62⟩) ?rg62
            case hg62 => (intro w0; go_simp; try with_reducible rfl)
            simp only [Act.put, List.setIfInBounds_toArray, List.set_cons_zero, List.set_cons_succ]
            refine take_at (i := 9) (some 58) (v := ?vg63) rfl rfl (by kernel_rfl) (by kernel_rfl) (by kernel_rfl) (fun _ _ _ h => h) (Or.inl ⟨by rfl, ?hg63⟩) ?rg63
            case hg63 => (intro w0; go_simp; try with_reducible rfl)
            simp only [Act.put, List.setIfInBounds_toArray, List.set_cons_zero, List.set_cons_succ]
            refine take_at (i := 10) (some 59) (v := ?vg64) rfl rfl (by kernel_rfl) (by kernel_rfl) (by kernel_rfl) (fun _ _ _ h => h) (Or.inl ⟨by rfl, ?hg64⟩) ?rg64
            case hg64 => (intro w0; go_simp; try with_reducible rfl)
            simp only [Act.put, List.setIfInBounds_toArray, List.set_cons_zero, List.set_cons_succ]
            refine take_at (i := 11) (some 60) (v := ?vg65) rfl rfl (by kernel_rfl) (by kernel_rfl) (by kernel_rfl) (fun _ _ _ h => h) (Or.inl ⟨by rfl, ?hg65⟩) ?rg65
            case hg65 => (intro w0; go_simp; try with_reducible rfl)
            simp only [Act.put, List.setIfInBounds_toArray, List.set_cons_zero, List.set_cons_succ]
            refine take_at (i := 12) (some 61) (v := ?vg66) rfl rfl (by kernel_rfl) (by kernel_rfl) (by kernel_rfl) (fun _ _ _ h => h) (Or.inl ⟨by rfl, ?hg66⟩) ?rg66
            case hg66 => (intro w0; go_simp; try with_reducible rfl)
            simp only [Act.put, List.setIfInBounds_toArray, List.set_cons_zero, List.set_cons_succ]
            refine take_at (i := 15) (some 64) (v := ?vg67) rfl rfl (by kernel_rfl) (by kernel_rfl) (by kernel_rfl) (fun _ _ _ h => h) (Or.inl ⟨by rfl, ?hg67⟩) ?rg67
            case hg67 => (intro w0; go_simp; try with_reducible rfl)
            simp only [Act.put, List.setIfInBounds_toArray, List.set_cons_zero, List.set_cons_succ]
            refine take_at (i := 16) (some 65) (v := ?vg68) rfl rfl (by kernel_rfl) (by kernel_rfl) (by kernel_rfl) (fun _ _ _ h => h) (Or.inl ⟨by rfl, ?hg68⟩) ?rg68
            case hg68 => (intro w0; go_simp; try with_reducible rfl)
            simp only [Act.put, List.setIfInBounds_toArray, List.set_cons_zero, List.set_cons_succ]
            refine take_at (i := 17) (some 66) (v := ?vg69) rfl rfl (by kernel_rfl) (by kernel_rfl) (by kernel_rfl) (fun _ _ _ h => h) (Or.inl ⟨by rfl, ?hg69⟩) ?rg69
            case hg69 => (intro w0; go_simp; try with_reducible rfl)
            simp only [Act.put, List.setIfInBounds_toArray, List.set_cons_zero, List.set_cons_succ]
            refine wpAny_ready (rs := [13, 18]) (by kernel_rfl) (by simp) ?_
            refine AllReady.cons (o := _) rfl (fun K hK => ?_) (AllReady.cons (o := _) rfl (fun K hK => ?_) AllReady.nil)
            · first | (have kx0 := cell_keep B56 x0; have kx1 := cell_keep B56 x1; have kx2 := cell_keep B56 x2; go_simp; refine hK _ _ ?_)
              clear hK K
              refine wpAny_ready (rs := [14, 18]) (by kernel_rfl) (by simp) ?_
              refine AllReady.cons (o := _) rfl (fun K hK => ?_) (AllReady.cons (o := _) rfl (fun K hK => ?_) AllReady.nil)
              · go_simp
                first | (have hrd := rd_at0 RX.out B56; refine (verify_any own q xi xv Ax xm cx xp w56 (by omega) hrd).mono ?_)
                rintro e w63 ⟨rfl, hb63⟩
                have B63 : Below X.heap.size X w63 := by first | exact b_call B56 hb63
                clear hb63
                refine hK _ _ ?_
                clear hK K
                refine wpAny_ready (rs := [18]) (by kernel_rfl) (by simp) ?_
                refine AllReady.cons (o := _) rfl (fun K hK => ?_) AllReady.nil
                · first | (have kx0 := cell_keep B63 x0; have kx1 := cell_keep B63 x1; have kx2 := cell_keep B63 x2; go_simp; refine hK _ _ ?_) | (have kx0 := cell_keep B56 x0; have kx1 := cell_keep B56 x1; have kx2 := cell_keep B56 x2; go_simp; refine hK _ _ ?_)
                  clear hK K
                  refine wpAny_ready (rs := [19]) (by kernel_rfl) (by simp) ?_
                  refine AllReady.cons (o := _) rfl (fun K hK => ?_) AllReady.nil
                  · go_simp
                    first | (have hrd := rd_at0 RX.out B63; refine (rverify_any own q xi xv Ax xm cx xp w63 (by omega) hrd).mono ?_)
                    rintro e w68 ⟨rfl, hb68⟩
                    have B68 : Below X.heap.size X w68 := by first | exact b_call B63 hb68
                    clear hb68
                    refine hK _ _ ?_
                    clear hK K
                    refine take_at (i := 20) (some 69) (v := ?vg70) rfl rfl (by kernel_rfl) (by kernel_rfl) (by kernel_rfl) (fun _ _ _ h => h) (Or.inl ⟨by rfl, ?hg70⟩) ?rg70
                    case hg70 => (intro w0; go_simp; try with_reducible rfl)
                    simp only [Act.put, List.setIfInBounds_toArray, List.set_cons_zero, List.set_cons_succ]
                    refine take_at (i := 21) (some 70) (v := ?vg71) rfl rfl (by kernel_rfl) (by kernel_rfl) (by kernel_rfl) (fun _ _ _ h => h) (Or.inl ⟨by rfl, ?hg71⟩) ?rg71
                    case hg71 => (intro w0; go_simp; try with_reducible rfl)
                    simp only [Act.put, List.setIfInBounds_toArray, List.set_cons_zero, List.set_cons_succ]
                    refine wpAny_done (by kernel_rfl) ?_ _
                    go_wp2
                    go_meet
                    case rel => exact ⟨rfl, Lib.hid B68⟩
              · first | (have kx0 := cell_keep B63 x0; have kx1 := cell_keep B63 x1; have kx2 := cell_keep B63 x2; go_simp; refine hK _ _ ?_) | (have kx0 := cell_keep B56 x0; have kx1 := cell_keep B56 x1; have kx2 := cell_keep B56 x2; go_simp; refine hK _ _ ?_)
                clear hK K
                refine wpAny_ready (rs := [14]) (by kernel_rfl) (by simp) ?_
                refine AllReady.cons (o := _) rfl (fun K hK => ?_) AllReady.nil
                · go_simp
                  first | (have hrd := rd_at0 RX.out B56; refine (verify_any own q xi xv Ax xm cx xp w56 (by omega) hrd).mono ?_)
                  rintro e w63 ⟨rfl, hb63⟩
                  have B63 : Below X.heap.size X w63 := by first | exact b_call B56 hb63
                  clear hb63
                  refine hK _ _ ?_
                  clear hK K
                  refine wpAny_ready (rs := [19]) (by kernel_rfl) (by simp) ?_
                  refine AllReady.cons (o := _) rfl (fun K hK => ?_) AllReady.nil
                  · go_simp
                    first | (have hrd := rd_at0 RX.out B63; refine (rverify_any own q xi xv Ax xm cx xp w63 (by omega) hrd).mono ?_)
                    rintro e w68 ⟨rfl, hb68⟩
                    have B68 : Below X.heap.size X w68 := by first | exact b_call B63 hb68
                    clear hb68
                    refine hK _ _ ?_
                    clear hK K
                    refine take_at (i := 20) (some 69) (v := ?vg74) rfl rfl (by kernel_rfl) (by kernel_rfl) (by kernel_rfl) (fun _ _ _ h => h) (Or.inl ⟨by rfl, ?hg74⟩) ?rg74
                    case hg74 => (intro w0; go_simp; try with_reducible rfl)
                    simp only [Act.put, List.setIfInBounds_toArray, List.set_cons_zero, List.set_cons_succ]
                    refine take_at (i := 21) (some 70) (v := ?vg75) rfl rfl (by kernel_rfl) (by kernel_rfl) (by kernel_rfl) (fun _ _ _ h => h) (Or.inl ⟨by rfl, ?hg75⟩) ?rg75
                    case hg75 => (intro w0; go_simp; try with_reducible rfl)
                    simp only [Act.put, List.setIfInBounds_toArray, List.set_cons_zero, List.set_cons_succ]
                    refine wpAny_done (by kernel_rfl) ?_ _
                    go_wp2
                    go_meet
                    case rel => exact ⟨rfl, Lib.hid B68⟩
            · first | (have kx0 := cell_keep B63 x0; have kx1 := cell_keep B63 x1; have kx2 := cell_keep B63 x2; go_simp; refine hK _ _ ?_) | (have kx0 := cell_keep B56 x0; have kx1 := cell_keep B56 x1; have kx2 := cell_keep B56 x2; go_simp; refine hK _ _ ?_)
              clear hK K
              refine wpAny_ready (rs := [13]) (by kernel_rfl) (by simp) ?_
              refine AllReady.cons (o := _) rfl (fun K hK => ?_) AllReady.nil
              · first | (have kx0 := cell_keep B56 x0; have kx1 := cell_keep B56 x1; have kx2 := cell_keep B56 x2; go_simp; refine hK _ _ ?_)
                clear hK K
                refine wpAny_ready (rs := [14]) (by kernel_rfl) (by simp) ?_
                refine AllReady.cons (o := _) rfl (fun K hK => ?_) AllReady.nil
                · go_simp
                  first | (have hrd := rd_at0 RX.out B56; refine (verify_any own q xi xv Ax xm cx xp w56 (by omega) hrd).mono ?_)
                  rintro e w63 ⟨rfl, hb63⟩
                  have B63 : Below X.heap.size X w63 := by first | exact b_call B56 hb63
                  clear hb63
                  refine hK _ _ ?_
                  clear hK K
                  refine wpAny_ready (rs := [19]) (by kernel_rfl) (by simp) ?_
                  refine AllReady.cons (o := _) rfl (fun K hK => ?_) AllReady.nil
                  · go_simp
                    first | (have hrd := rd_at0 RX.out B63; refine (rverify_any own q xi xv Ax xm cx xp w63 (by omega) hrd).mono ?_)
                    rintro e w68 ⟨rfl, hb68⟩
                    have B68 : Below X.heap.size X w68 := by first | exact b_call B63 hb68
                    clear hb68
                    refine hK _ _ ?_
                    clear hK K
                    refine take_at (i := 20) (some 69) (v := ?vg78) rfl rfl (by kernel_rfl) (by kernel_rfl) (by kernel_rfl) (fun _ _ _ h => h) (Or.inl ⟨by rfl, ?hg78⟩) ?rg78
                    case hg78 => (intro w0; go_simp; try with_reducible rfl)
                    simp only [Act.put, List.setIfInBounds_toArray, List.set_cons_zero, List.set_cons_succ]
                    refine take_at (i := 21) (some 70) (v := ?vg79) rfl rfl (by kernel_rfl) (by kernel_rfl) (by kernel_rfl) (fun _ _ _ h => h) (Or.inl ⟨by rfl, ?hg79⟩) ?rg79
                    case hg79 => (intro w0; go_simp; try with_reducible rfl)
                    simp only [Act.put, List.setIfInBounds_toArray, List.set_cons_zero, List.set_cons_succ]
                    refine wpAny_done (by kernel_rfl) ?_ _
                    go_wp2
                    go_meet
                    case rel => exact ⟨rfl, Lib.hid B68⟩
      · first | (have kr0 := cell_keep B52 r0; have kr1 := cell_keep B52 r1; have kr2 := cell_keep B52 r2; go_simp; refine hK _ _ ?_) | (have kr0 := cell_keep B0 r0; have kr1 := cell_keep B0 r1; have kr2 := cell_keep B0 r2; go_simp; refine hK _ _ ?_)
        clear hK K
        refine wpAny_ready (rs := [3]) (by kernel_rfl) (by simp) ?_
        refine AllReady.cons (o := _) rfl (fun K hK => ?_) AllReady.nil
        · go_simp
          first | (have hrd := rd_at0 RP.out B0; refine (verify_any root N ix v A1 p c1 pr X.drew (by omega) hrd).mono ?_)
          rintro e w52 ⟨rfl, hb52⟩
          have B52 : Below X.heap.size X w52 := by first | exact b_call B0 hb52
          clear hb52
          refine hK _ _ ?_
          clear hK K
          refine wpAny_ready (rs := [7]) (by kernel_rfl) (by simp) ?_
          refine AllReady.cons (o := _) rfl (fun K hK => ?_) AllReady.nil
          · go_simp
            first | (have hrd := rd_at0 RP.out B52; refine (rverify_any root N ix v A1 p c1 pr w52 (by omega) hrd).mono ?_)
            rintro e w56 ⟨rfl, hb56⟩
            have B56 : Below X.heap.size X w56 := by first | exact b_call B52 hb56
            clear hb56
            refine hK _ _ ?_
            clear hK K
            refine take_at (i := 8) (some 57) (v := ?vg82) rfl rfl (by kernel_rfl) (by kernel_rfl) (by kernel_rfl) (fun _ _ _ h => h) (Or.inl ⟨by rfl, ?hg82⟩) ?rg82
            case hg82 => (intro w0; go_simp; try with_reducible rfl)
            simp only [Act.put, List.setIfInBounds_toArray, List.set_cons_zero, List.set_cons_succ]
            refine take_at (i := 9) (some 58) (v := ?vg83) rfl rfl (by kernel_rfl) (by kernel_rfl) (by kernel_rfl) (fun _ _ _ h => h) (Or.inl ⟨by rfl, ?hg83⟩) ?rg83
            case hg83 => (intro w0; go_simp; try with_reducible rfl)
            simp only [Act.put, List.setIfInBounds_toArray, List.set_cons_zero, List.set_cons_succ]
            refine take_at (i := 10) (some 59) (v := ?vg84) rfl rfl (by kernel_rfl) (by kernel_rfl) (by kernel_rfl) (fun _ _ _ h => h) (Or.inl ⟨by rfl, ?hg84⟩) ?rg84
            case hg84 => (intro w0; go_simp; try with_reducible rfl)
            simp only [Act.put, List.setIfInBounds_toArray, List.set_cons_zero, List.set_cons_succ]
            refine take_at (i := 11) (some 60) (v := ?vg85) rfl rfl (by kernel_rfl) (by kernel_rfl) (by kernel_rfl) (fun _ _ _ h => h) (Or.inl ⟨by rfl, ?hg85⟩) ?rg85
            case hg85 => (intro w0; go_simp; try with_reducible rfl)
            simp only [Act.put, List.setIfInBounds_toArray, List.set_cons_zero, List.set_cons_succ]
            refine take_at (i := 12) (some 61) (v := ?vg86) rfl rfl (by kernel_rfl) (by kernel_rfl) (by kernel_rfl) (fun _ _ _ h => h) (Or.inl ⟨by rfl, ?hg86⟩) ?rg86
            case hg86 => (intro w0; go_simp; try with_reducible rfl)
            simp only [Act.put, List.setIfInBounds_toArray, List.set_cons_zero, List.set_cons_succ]
            refine take_at (i := 15) (some 64) (v := ?vg87) rfl rfl (by kernel_rfl) (by kernel_rfl) (by kernel_rfl) (fun _ _ _ h => h) (Or.inl ⟨by rfl, ?hg87⟩) ?rg87
            case hg87 => (intro w0; go_simp; try with_reducible rfl)
            simp only [Act.put, List.setIfInBounds_toArray, List.set_cons_zero, List.set_cons_succ]
            refine take_at (i := 16) (some 65) (v := ?vg88) rfl rfl (by kernel_rfl) (by kernel_rfl) (by kernel_rfl) (fun _ _ _ h => h) (Or.inl ⟨by rfl, ?hg88⟩) ?rg88
            case hg88 => (intro w0; go_simp; try with_reducible rfl)
            simp only [Act.put, List.setIfInBounds_toArray, List.set_cons_zero, List.set_cons_succ]
            refine take_at (i := 17) (some 66) (v := ?vg89) rfl rfl (by kernel_rfl) (by kernel_rfl) (by kernel_rfl) (fun _ _ _ h => h) (Or.inl ⟨by rfl, ?hg89⟩) ?rg89
            case hg89 => (intro w0; go_simp; try with_reducible rfl)
            simp only [Act.put, List.setIfInBounds_toArray, List.set_cons_zero, List.set_cons_succ]
            refine wpAny_ready (rs := [13, 18]) (by kernel_rfl) (by simp) ?_
            refine AllReady.cons (o := _) rfl (fun K hK => ?_) (AllReady.cons (o := _) rfl (fun K hK => ?_) AllReady.nil)
            · first | (have kx0 := cell_keep B56 x0; have kx1 := cell_keep B56 x1; have kx2 := cell_keep B56 x2; go_simp; refine hK _ _ ?_)
              clear hK K
              refine wpAny_ready (rs := [14, 18]) (by kernel_rfl) (by simp) ?_
              refine AllReady.cons (o := _) rfl (fun K hK => ?_) (AllReady.cons (o := _) rfl (fun K hK => ?_) AllReady.nil)
              · go_simp
                first | (have hrd := rd_at0 RX.out B56; refine (verify_any own q xi xv Ax xm cx xp w56 (by omega) hrd).mono ?_)
                rintro e w63 ⟨rfl, hb63⟩
                have B63 : Below X.heap.size X w63 := by first | exact b_call B56 hb63
                clear hb63
                refine hK _ _ ?_
                clear hK K
                refine wpAny_ready (rs := [18]) (by kernel_rfl) (by simp) ?_
                refine AllReady.cons (o := _) rfl (fun K hK => ?_) AllReady.nil
                · first | (have kx0 := cell_keep B63 x0; have kx1 := cell_keep B63 x1; have kx2 := cell_keep B63 x2; go_simp; refine hK _ _ ?_) | (have kx0 := cell_keep B56 x0; have kx1 := cell_keep B56 x1; have kx2 := cell_keep B56 x2; go_simp; refine hK _ _ ?_)
                  clear hK K
                  refine wpAny_ready (rs := [19]) (by kernel_rfl) (by simp) ?_
                  refine AllReady.cons (o := _) rfl (fun K hK => ?_) AllReady.nil
                  · go_simp
                    first | (have hrd := rd_at0 RX.out B63; refine (rverify_any own q xi xv Ax xm cx xp w63 (by omega) hrd).mono ?_)
                    rintro e w68 ⟨rfl, hb68⟩
                    have B68 : Below X.heap.size X w68 := by first | exact b_call B63 hb68
                    clear hb68
                    refine hK _ _ ?_
                    clear hK K
                    refine take_at (i := 20) (some 69) (v := ?vg90) rfl rfl (by kernel_rfl) (by kernel_rfl) (by kernel_rfl) (fun _ _ _ h => h) (Or.inl ⟨by rfl, ?hg90⟩) ?rg90
                    case hg90 => (intro w0; go_simp; try with_reducible rfl)
                    simp only [Act.put, List.setIfInBounds_toArray, List.set_cons_zero, List.set_cons_succ]
                    refine take_at (i := 21) (some 70) (v := ?vg91) rfl rfl (by kernel_rfl) (by kernel_rfl) (by kernel_rfl) (fun _ _ _ h => h) (Or.inl ⟨by rfl, ?hg91⟩) ?rg91
                    case hg91 => (intro w0; go_simp; try with_reducible rfl)
                    simp only [Act.put, List.setIfInBounds_toArray, List.set_cons_zero, List.set_cons_succ]
                    refine wpAny_done (by kernel_rfl) ?_ _
                    go_wp2
                    go_meet
                    case rel => exact ⟨rfl, Lib.hid B68⟩
              · first | (have kx0 := cell_keep B63 x0; have kx1 := cell_keep B63 x1; have kx2 := cell_keep B63 x2; go_simp; refine hK _ _ ?_) | (have kx0 := cell_keep B56 x0; have kx1 := cell_keep B56 x1; have kx2 := cell_keep B56 x2; go_simp; refine hK _ _ ?_)
                clear hK K
                refine wpAny_ready (rs := [14]) (by kernel_rfl) (by simp) ?_
                refine AllReady.cons (o := _) rfl (fun K hK => ?_) AllReady.nil
                · go_simp
                  first | (have hrd := rd_at0 RX.out B56; refine (verify_any own q xi xv Ax xm cx xp w56 (by omega) hrd).mono ?_)
                  rintro e w63 ⟨rfl, hb63⟩
                  have B63 : Below X.heap.size X w63 := by first | exact b_call B56 hb63
                  clear hb63
                  refine hK _ _ ?_
                  clear hK K
                  refine wpAny_ready (rs := [19]) (by kernel_rfl) (by simp) ?_
                  refine AllReady.cons (o := _) rfl (fun K hK => ?_) AllReady.nil
                  · go_simp
                    first | (have hrd := rd_at0 RX.out B63; refine (rverify_any own q xi xv Ax xm cx xp w63 (by omega) hrd).mono ?_)
                    rintro e w68 ⟨rfl, hb68⟩
                    have B68 : Below X.heap.size X w68 := by first | exact b_call B63 hb68
                    clear hb68
                    refine hK _ _ ?_
                    clear hK K
                    refine take_at (i := 20) (some 69) (v := ?vg94) rfl rfl (by kernel_rfl) (by kernel_rfl) (by kernel_rfl) (fun _ _ _ h => h) (Or.inl ⟨by rfl, ?hg94⟩) ?rg94
                    case hg94 => (intro w0; go_simp; try with_reducible rfl)
                    simp only [Act.put, List.setIfInBounds_toArray, List.set_cons_zero, List.set_cons_succ]
                    refine take_at (i := 21) (some 70) (v := ?vg95) rfl rfl (by kernel_rfl) (by kernel_rfl) (by kernel_rfl) (fun _ _ _ h => h) (Or.inl ⟨by rfl, ?hg95⟩) ?rg95
                    case hg95 => (intro w0; go_simp; try with_reducible rfl)
                    simp only [Act.put, List.setIfInBounds_toArray, List.set_cons_zero, List.set_cons_succ]
                    refine wpAny_done (by kernel_rfl) ?_ _
                    go_wp2
                    go_meet
                    case rel => exact ⟨rfl, Lib.hid B68⟩
            · first | (have kx0 := cell_keep B63 x0; have kx1 := cell_keep B63 x1; have kx2 := cell_keep B63 x2; go_simp; refine hK _ _ ?_) | (have kx0 := cell_keep B56 x0; have kx1 := cell_keep B56 x1; have kx2 := cell_keep B56 x2; go_simp; refine hK _ _ ?_)
              clear hK K
              refine wpAny_ready (rs := [13]) (by kernel_rfl) (by simp) ?_
              refine AllReady.cons (o := _) rfl (fun K hK => ?_) AllReady.nil
              · first | (have kx0 := cell_keep B56 x0; have kx1 := cell_keep B56 x1; have kx2 := cell_keep B56 x2; go_simp; refine hK _ _ ?_)
                clear hK K
                refine wpAny_ready (rs := [14]) (by kernel_rfl) (by simp) ?_
                refine AllReady.cons (o := _) rfl (fun K hK => ?_) AllReady.nil
                · go_simp
                  first | (have hrd := rd_at0 RX.out B56; refine (verify_any own q xi xv Ax xm cx xp w56 (by omega) hrd).mono ?_)
                  rintro e w63 ⟨rfl, hb63⟩
                  have B63 : Below X.heap.size X w63 := by first | exact b_call B56 hb63
                  clear hb63
                  refine hK _ _ ?_
                  clear hK K
                  refine wpAny_ready (rs := [19]) (by kernel_rfl) (by simp) ?_
                  refine AllReady.cons (o := _) rfl (fun K hK => ?_) AllReady.nil
                  · go_simp
                    first | (have hrd := rd_at0 RX.out B63; refine (rverify_any own q xi xv Ax xm cx xp w63 (by omega) hrd).mono ?_)
                    rintro e w68 ⟨rfl, hb68⟩
                    have B68 : Below X.heap.size X w68 := by first | exact b_call B63 hb68
                    clear hb68
                    refine hK _ _ ?_
                    clear hK K
                    refine take_at (i := 20) (some 69) (v := ?vg98) rfl rfl (by kernel_rfl) (by kernel_rfl) (by kernel_rfl) (fun _ _ _ h => h) (Or.inl ⟨by rfl, ?hg98⟩) ?rg98
                    case hg98 => (intro w0; go_simp; try with_reducible rfl)
                    simp only [Act.put, List.setIfInBounds_toArray, List.set_cons_zero, List.set_cons_succ]
                    refine take_at (i := 21) (some 70) (v := ?vg99) rfl rfl (by kernel_rfl) (by kernel_rfl) (by kernel_rfl) (fun _ _ _ h => h) (Or.inl ⟨by rfl, ?hg99⟩) ?rg99
                    case hg99 => (intro w0; go_simp; try with_reducible rfl)
                    simp only [Act.put, List.setIfInBounds_toArray, List.set_cons_zero, List.set_cons_succ]
                    refine wpAny_done (by kernel_rfl) ?_ _
                    go_wp2
                    go_meet
                    case rel => exact ⟨rfl, Lib.hid B68⟩
    · first | (have kr0 := cell_keep B52 r0; have kr1 := cell_keep B52 r1; have kr2 := cell_keep B52 r2; go_simp; refine hK _ _ ?_) | (have kr0 := cell_keep B0 r0; have kr1 := cell_keep B0 r1; have kr2 := cell_keep B0 r2; go_simp; refine hK _ _ ?_)
      clear hK K
      refine wpAny_ready (rs := [2]) (by kernel_rfl) (by simp) ?_
      refine AllReady.cons (o := _) rfl (fun K hK => ?_) AllReady.nil
      · first | (have kr0 := cell_keep B0 r0; have kr1 := cell_keep B0 r1; have kr2 := cell_keep B0 r2; go_simp; refine hK _ _ ?_)
        clear hK K
        refine wpAny_ready (rs := [3]) (by kernel_rfl) (by simp) ?_
        refine AllReady.cons (o := _) rfl (fun K hK => ?_) AllReady.nil
        · go_simp
          first | (have hrd := rd_at0 RP.out B0; refine (verify_any root N ix v A1 p c1 pr X.drew (by omega) hrd).mono ?_)
          rintro e w52 ⟨rfl, hb52⟩
          have B52 : Below X.heap.size X w52 := by first | exact b_call B0 hb52
          clear hb52
          refine hK _ _ ?_
          clear hK K
          refine wpAny_ready (rs := [7]) (by kernel_rfl) (by simp) ?_
          refine AllReady.cons (o := _) rfl (fun K hK => ?_) AllReady.nil
          · go_simp
            first | (have hrd := rd_at0 RP.out B52; refine (rverify_any root N ix v A1 p c1 pr w52 (by omega) hrd).mono ?_)
            rintro e w56 ⟨rfl, hb56⟩
            have B56 : Below X.heap.size X w56 := by first | exact b_call B52 hb56
            clear hb56
            refine hK _ _ ?_
            clear hK K
            refine take_at (i := 8) (some 57) (v := ?vg102) rfl rfl (by kernel_rfl) (by kernel_rfl) (by kernel_rfl) (fun _ _ _ h => h) (Or.inl ⟨by rfl, ?hg102⟩) ?rg102
            case hg102 => (intro w0; go_simp; try with_reducible rfl)
            simp only [Act.put, List.setIfInBounds_toArray, List.set_cons_zero, List.set_cons_succ]
            refine take_at (i := 9) (some 58) (v := ?vg103) rfl rfl (by kernel_rfl) (by kernel_rfl) (by kernel_rfl) (fun _ _ _ h => h) (Or.inl ⟨by rfl, ?hg103⟩) ?rg103
            case hg103 => (intro w0; go_simp; try with_reducible rfl)
            simp only [Act.put, List.setIfInBounds_toArray, List.set_cons_zero, List.set_cons_succ]
            refine take_at (i := 10) (some 59) (v := ?vg104) rfl rfl (by kernel_rfl) (by kernel_rfl) (by kernel_rfl) (fun _ _ _ h => h) (Or.inl ⟨by rfl, ?hg104⟩) ?rg104
            case hg104 => (intro w0; go_simp; try with_reducible rfl)
            simp only [Act.put, List.setIfInBounds_toArray, List.set_cons_zero, List.set_cons_succ]
            refine take_at (i := 11) (some 60) (v := ?vg105) rfl rfl (by kernel_rfl) (by kernel_rfl) (by kernel_rfl) (fun _ _ _ h => h) (Or.inl ⟨by rfl, ?hg105⟩) ?rg105
            case hg105 => (intro w0; go_simp; try with_reducible rfl)
            simp only [Act.put, List.setIfInBounds_toArray, List.set_cons_zero, List.set_cons_succ]
            refine take_at (i := 12) (some 61) (v := ?vg106) rfl rfl (by kernel_rfl) (by kernel_rfl) (by kernel_rfl) (fun _ _ _ h => h) (Or.inl ⟨by rfl, ?hg106⟩) ?rg106
            case hg106 => (intro w0; go_simp; try with_reducible rfl)
            simp only [Act.put, List.setIfInBounds_toArray, List.set_cons_zero, List.set_cons_succ]
            refine take_at (i := 15) (some 64) (v := ?vg107) rfl rfl (by kernel_rfl) (by kernel_rfl) (by kernel_rfl) (fun _ _ _ h => h) (Or.inl ⟨by rfl, ?hg107⟩) ?rg107
            case hg107 => (intro w0; go_simp; try with_reducible rfl)
            simp only [Act.put, List.setIfInBounds_toArray, List.set_cons_zero, List.set_cons_succ]
            refine take_at (i := 16) (some 65) (v := ?vg108) rfl rfl (by kernel_rfl) (by kernel_rfl) (by kernel_rfl) (fun _ _ _ h => h) (Or.inl ⟨by rfl, ?hg108⟩) ?rg108
            case hg108 => (intro w0; go_simp; try with_reducible rfl)
            simp only [Act.put, List.setIfInBounds_toArray, List.set_cons_zero, List.set_cons_succ]
            refine take_at (i := 17) (some 66) (v := ?vg109) rfl rfl (by kernel_rfl) (by kernel_rfl) (by kernel_rfl) (fun _ _ _ h => h) (Or.inl ⟨by rfl, ?hg109⟩) ?rg109
            case hg109 => (intro w0; go_simp; try with_reducible rfl)
            simp only [Act.put, List.setIfInBounds_toArray, List.set_cons_zero, List.set_cons_succ]
            refine wpAny_ready (rs := [13, 18]) (by kernel_rfl) (by simp) ?_
            refine AllReady.cons (o := _) rfl (fun K hK => ?_) (AllReady.cons (o := _) rfl (fun K hK => ?_) AllReady.nil)
            · first | (have kx0 := cell_keep B56 x0; have kx1 := cell_keep B56 x1; have kx2 := cell_keep B56 x2; go_simp; refine hK _ _ ?_)
              clear hK K
              refine wpAny_ready (rs := [14, 18]) (by kernel_rfl) (by simp) ?_
              refine AllReady.cons (o := _) rfl (fun K hK => ?_) (AllReady.cons (o := _) rfl (fun K hK => ?_) AllReady.nil)
              · go_simp
                first | (have hrd := rd_at0 RX.out B56; refine (verify_any own q xi xv Ax xm cx xp w56 (by omega) hrd).mono ?_)
                rintro e w63 ⟨rfl, hb63⟩
                have B63 : Below X.heap.size X w63 := by first | exact b_call B56 hb63
                clear hb63
                refine hK _ _ ?_
                clear hK K
                refine wpAny_ready (rs := [18]) (by kernel_rfl) (by simp) ?_
                refine AllReady.cons (o := _) rfl (fun K hK => ?_) AllReady.nil
                · first | (have kx0 := cell_keep B63 x0; have kx1 := cell_keep B63 x1; have kx2 := cell_keep B63 x2; go_simp; refine hK _ _ ?_) | (have kx0 := cell_keep B56 x0; have kx1 := cell_keep B56 x1; have kx2 := cell_keep B56 x2; go_simp; refine hK _ _ ?_)
                  clear hK K
                  refine wpAny_ready (rs := [19]) (by kernel_rfl) (by simp) ?_
                  refine AllReady.cons (o := _) rfl (fun K hK => ?_) AllReady.nil
                  · go_simp
                    first | (have hrd := rd_at0 RX.out B63; refine (rverify_any own q xi xv Ax xm cx xp w63 (by omega) hrd).mono ?_)
                    rintro e w68 ⟨rfl, hb68⟩
                    have B68 : Below X.heap.size X w68 := by first | exact b_call B63 hb68
                    clear hb68
                    refine hK _ _ ?_
                    clear hK K
                    refine take_at (i := 20) (some 69) (v := ?vg110) rfl rfl (by kernel_rfl) (by kernel_rfl) (by kernel_rfl) (fun _ _ _ h => h) (Or.inl ⟨by rfl, ?hg110⟩) ?rg110
                    case hg110 => (intro w0; go_simp; try with_reducible rfl)
                    simp only [Act.put, List.setIfInBounds_toArray, List.set_cons_zero, List.set_cons_succ]
                    refine take_at (i := 21) (some 70) (v := ?vg111) rfl rfl (by kernel_rfl) (by kernel_rfl) (by kernel_rfl) (fun _ _ _ h => h) (Or.inl ⟨by rfl, ?hg111⟩) ?rg111
                    case hg111 => (intro w0; go_simp; try with_reducible rfl)
                    simp only [Act.put, List.setIfInBounds_toArray, List.set_cons_zero, List.set_cons_succ]
                    refine wpAny_done (by kernel_rfl) ?_ _
                    go_wp2
                    go_meet
                    case rel => exact ⟨rfl, Lib.hid B68⟩
              · first | (have kx0 := cell_keep B63 x0; have kx1 := cell_keep B63 x1; have kx2 := cell_keep B63 x2; go_simp; refine hK _ _ ?_) | (have kx0 := cell_keep B56 x0; have kx1 := cell_keep B56 x1; have kx2 := cell_keep B56 x2; go_simp; refine hK _ _ ?_)
                clear hK K
                refine wpAny_ready (rs := [14]) (by kernel_rfl) (by simp) ?_
                refine AllReady.cons (o := _) rfl (fun K hK => ?_) AllReady.nil
                · go_simp
                  first | (have hrd := rd_at0 RX.out B56; refine (verify_any own q xi xv Ax xm cx xp w56 (by omega) hrd).mono ?_)
                  rintro e w63 ⟨rfl, hb63⟩
                  have B63 : Below X.heap.size X w63 := by first | exact b_call B56 hb63
                  clear hb63
                  refine hK _ _ ?_
                  clear hK K
                  refine wpAny_ready (rs := [19]) (by kernel_rfl) (by simp) ?_
                  refine AllReady.cons (o := _) rfl (fun K hK => ?_) AllReady.nil
                  · go_simp
                    first | (have hrd := rd_at0 RX.out B63; refine (rverify_any own q xi xv Ax xm cx xp w63 (by omega) hrd).mono ?_)
                    rintro e w68 ⟨rfl, hb68⟩
                    have B68 : Below X.heap.size X w68 := by first | exact b_call B63 hb68
                    clear hb68
                    refine hK _ _ ?_
                    clear hK K
                    refine take_at (i := 20) (some 69) (v := ?vg114) rfl rfl (by kernel_rfl) (by kernel_rfl) (by kernel_rfl) (fun _ _ _ h => h) (Or.inl ⟨by rfl, ?hg114⟩) ?rg114
                    case hg114 => (intro w0; go_simp; try with_reducible rfl)
                    simp only [Act.put, List.setIfInBounds_toArray, List.set_cons_zero, List.set_cons_succ]
                    refine take_at (i := 21) (some 70) (v := ?vg115) rfl rfl (by kernel_rfl) (by kernel_rfl) (by kernel_rfl) (fun _ _ _ h => h) (Or.inl ⟨by rfl, ?hg115⟩) ?rg115
                    case hg115 => (intro w0; go_simp; try with_reducible rfl)
                    simp only [Act.put, List.setIfInBounds_toArray, List.set_cons_zero, List.set_cons_succ]
                    refine wpAny_done (by kernel_rfl) ?_ _
                    go_wp2
                    go_meet
                    case rel => exact ⟨rfl, Lib.hid B68⟩
            · first | (have kx0 := cell_keep B63 x0; have kx1 := cell_keep B63 x1; have kx2 := cell_keep B63 x2; go_simp; refine hK _ _ ?_) | (have kx0 := cell_keep B56 x0; have kx1 := cell_keep B56 x1; have kx2 := cell_keep B56 x2; go_simp; refine hK _ _ ?_)
              clear hK K
              refine wpAny_ready (rs := [13]) (by kernel_rfl) (by simp) ?_
              refine AllReady.cons (o := _) rfl (fun K hK => ?_) AllReady.nil
              · first | (have kx0 := cell_keep B56 x0; have kx1 := cell_keep B56 x1; have kx2 := cell_keep B56 x2; go_simp; refine hK _ _ ?_)
                clear hK K
                refine wpAny_ready (rs := [14]) (by kernel_rfl) (by simp) ?_
                refine AllReady.cons (o := _) rfl (fun K hK => ?_) AllReady.nil
                · go_simp
                  first | (have hrd := rd_at0 RX.out B56; refine (verify_any own q xi xv Ax xm cx xp w56 (by omega) hrd).mono ?_)
                  rintro e w63 ⟨rfl, hb63⟩
                  have B63 : Below X.heap.size X w63 := by first | exact b_call B56 hb63
                  clear hb63
                  refine hK _ _ ?_
                  clear hK K
                  refine wpAny_ready (rs := [19]) (by kernel_rfl) (by simp) ?_
                  refine AllReady.cons (o := _) rfl (fun K hK => ?_) AllReady.nil
                  · go_simp
                    first | (have hrd := rd_at0 RX.out B63; refine (rverify_any own q xi xv Ax xm cx xp w63 (by omega) hrd).mono ?_)
                    rintro e w68 ⟨rfl, hb68⟩
                    have B68 : Below X.heap.size X w68 := by first | exact b_call B63 hb68
                    clear hb68
                    refine hK _ _ ?_
                    clear hK K
                    refine take_at (i := 20) (some 69) (v := ?vg118) rfl rfl (by kernel_rfl) (by kernel_rfl) (by kernel_rfl) (fun _ _ _ h => h) (Or.inl ⟨by rfl, ?hg118⟩) ?rg118
                    case hg118 => (intro w0; go_simp; try with_reducible rfl)
                    simp only [Act.put, List.setIfInBounds_toArray, List.set_cons_zero, List.set_cons_succ]
                    refine take_at (i := 21) (some 70) (v := ?vg119) rfl rfl (by kernel_rfl) (by kernel_rfl) (by kernel_rfl) (fun _ _ _ h => h) (Or.inl ⟨by rfl, ?hg119⟩) ?rg119
                    case hg119 => (intro w0; go_simp; try with_reducible rfl)
                    simp only [Act.put, List.setIfInBounds_toArray, List.set_cons_zero, List.set_cons_succ]
                    refine wpAny_done (by kernel_rfl) ?_ _
                    go_wp2
                    go_meet
                    case rel => exact ⟨rfl, Lib.hid B68⟩
  case rest =>
    obtain ⟨rfl, HBC⟩ := hcut
    clear r0 r1 r2 x0 x1 x2
    go_upto_region 10 with (fail)
    obtain ⟨Y, rfl⟩ : ∃ W : World, W = wc := ⟨_, rfl⟩
    have B0 : Below X.heap.size X Y.drew := b_drew HBC.out
    have x0 := V17'.out.cell 0
    have x1 := V17'.out.cell 1
    have x2 := V17'.out.cell 2
    have y0 := V18'.out.cell 0
    have y1 := V18'.out.cell 1
    have y2 := V18'.out.cell 2
    refine wp_region_any (by kernel_rfl) ?_
    change wpAny _ _ _ _ _ _ _ (World.drew _)
    refine take_at (i := 0) (some 71) (v := ?vg123) rfl rfl (by kernel_rfl) (by kernel_rfl) (by kernel_rfl) (fun _ _ _ h => h) (Or.inl ⟨by rfl, ?hg123⟩) ?rg123
    case hg123 => (intro w0; go_simp; try with_reducible rfl)
    simp only [Act.put, List.setIfInBounds_toArray, List.set_cons_zero, List.set_cons_succ]
    refine take_at (i := 1) (some 72) (v := ?vg124) rfl rfl (by kernel_rfl) (by kernel_rfl) (by kernel_rfl) (fun _ _ _ h => h) (Or.inl ⟨by rfl, ?hg124⟩) ?rg124
    case hg124 => (intro w0; go_simp; try with_reducible rfl)
    simp only [Act.put, List.setIfInBounds_toArray, List.set_cons_zero, List.set_cons_succ]
    refine take_at (i := 2) (some 73) (v := ?vg125) rfl rfl (by kernel_rfl) (by kernel_rfl) (by kernel_rfl) (fun _ _ _ h => h) (Or.inl ⟨by rfl, ?hg125⟩) ?rg125
    case hg125 => (intro w0; go_simp; try with_reducible rfl)
    simp only [Act.put, List.setIfInBounds_toArray, List.set_cons_zero, List.set_cons_succ]
    refine take_at (i := 5) (some 76) (v := ?vg126) rfl rfl (by kernel_rfl) (by kernel_rfl) (by kernel_rfl) (fun _ _ _ h => h) (Or.inl ⟨by rfl, ?hg126⟩) ?rg126
    case hg126 => (intro w0; go_simp; try with_reducible rfl)
    simp only [Act.put, List.setIfInBounds_toArray, List.set_cons_zero, List.set_cons_succ]
    refine take_at (i := 6) (some 77) (v := ?vg127) rfl rfl (by kernel_rfl) (by kernel_rfl) (by kernel_rfl) (fun _ _ _ h => h) (Or.inl ⟨by rfl, ?hg127⟩) ?rg127
    case hg127 => (intro w0; go_simp; try with_reducible rfl)
    simp only [Act.put, List.setIfInBounds_toArray, List.set_cons_zero, List.set_cons_succ]
    refine take_at (i := 7) (some 78) (v := ?vg128) rfl rfl (by kernel_rfl) (by kernel_rfl) (by kernel_rfl) (fun _ _ _ h => h) (Or.inl ⟨by rfl, ?hg128⟩) ?rg128
    case hg128 => (intro w0; go_simp; try with_reducible rfl)
    simp only [Act.put, List.setIfInBounds_toArray, List.set_cons_zero, List.set_cons_succ]
    refine wpAny_ready (rs := [3, 8]) (by kernel_rfl) (by simp) ?_
    refine AllReady.cons (o := _) rfl (fun K hK => ?_) (AllReady.cons (o := _) rfl (fun K hK => ?_) AllReady.nil)
    · first | (have ky0 := cell_keep B0 y0; have ky1 := cell_keep B0 y1; have ky2 := cell_keep B0 y2; go_simp; refine hK _ _ ?_)
      clear hK K
      refine wpAny_ready (rs := [4, 8]) (by kernel_rfl) (by simp) ?_
      refine AllReady.cons (o := _) rfl (fun K hK => ?_) (AllReady.cons (o := _) rfl (fun K hK => ?_) AllReady.nil)
      · go_simp
        first | (have hrd := rd_at0 RY.out B0; refine (verify_any own q yi yv Ay ym cy yp Y.drew (by omega) hrd).mono ?_)
        rintro e w75 ⟨rfl, hb75⟩
        have B75 : Below X.heap.size X w75 := by first | exact b_call B0 hb75
        clear hb75
        refine hK _ _ ?_
        clear hK K
        refine wpAny_ready (rs := [8]) (by kernel_rfl) (by simp) ?_
        refine AllReady.cons (o := _) rfl (fun K hK => ?_) AllReady.nil
        · first | (have ky0 := cell_keep B75 y0; have ky1 := cell_keep B75 y1; have ky2 := cell_keep B75 y2; go_simp; refine hK _ _ ?_) | (have ky0 := cell_keep B0 y0; have ky1 := cell_keep B0 y1; have ky2 := cell_keep B0 y2; go_simp; refine hK _ _ ?_)
          clear hK K
          refine wpAny_ready (rs := [9]) (by kernel_rfl) (by simp) ?_
          refine AllReady.cons (o := _) rfl (fun K hK => ?_) AllReady.nil
          · go_simp
            first | (have hrd := rd_at0 RY.out B75; refine (rverify_any own q yi yv Ay ym cy yp w75 (by omega) hrd).mono ?_)
            rintro e w80 ⟨rfl, hb80⟩
            have B80 : Below X.heap.size X w80 := by first | exact b_call B75 hb80
            clear hb80
            refine hK _ _ ?_
            clear hK K
            refine take_at (i := 10) (some 81) (v := ?vg129) rfl rfl (by kernel_rfl) (by kernel_rfl) (by kernel_rfl) (fun _ _ _ h => h) (Or.inl ⟨by rfl, ?hg129⟩) ?rg129
            case hg129 => (intro w0; go_simp; try with_reducible rfl)
            simp only [Act.put, List.setIfInBounds_toArray, List.set_cons_zero, List.set_cons_succ]
            refine take_at (i := 11) (some 82) (v := ?vg130) rfl rfl (by kernel_rfl) (by kernel_rfl) (by kernel_rfl) (fun _ _ _ h => h) (Or.inl ⟨by rfl, ?hg130⟩) ?rg130
            case hg130 => (intro w0; go_simp; try with_reducible rfl)
            simp only [Act.put, List.setIfInBounds_toArray, List.set_cons_zero, List.set_cons_succ]
            refine take_at (i := 12) (some 83) (v := ?vg131) rfl rfl (by kernel_rfl) (by kernel_rfl) (by kernel_rfl) (fun _ _ _ h => h) (Or.inl ⟨by rfl, ?hg131⟩) ?rg131
            case hg131 => (intro w0; go_simp; try with_reducible rfl)
            simp only [Act.put, List.setIfInBounds_toArray, List.set_cons_zero, List.set_cons_succ]
            refine take_at (i := 13) (some 84) (v := ?vg132) rfl rfl (by kernel_rfl) (by kernel_rfl) (by kernel_rfl) (fun _ _ _ h => h) (Or.inl ⟨by rfl, ?hg132⟩) ?rg132
            case hg132 => (intro w0; go_simp; try with_reducible rfl)
            simp only [Act.put, List.setIfInBounds_toArray, List.set_cons_zero, List.set_cons_succ]
            refine take_at (i := 16) (some 87) (v := ?vg133) rfl rfl (by kernel_rfl) (by kernel_rfl) (by kernel_rfl) (fun _ _ _ h => h) (Or.inl ⟨by rfl, ?hg133⟩) ?rg133
            case hg133 => (intro w0; go_simp; try with_reducible rfl)
            simp only [Act.put, List.setIfInBounds_toArray, List.set_cons_zero, List.set_cons_succ]
            refine take_at (i := 17) (some 88) (v := ?vg134) rfl rfl (by kernel_rfl) (by kernel_rfl) (by kernel_rfl) (fun _ _ _ h => h) (Or.inl ⟨by rfl, ?hg134⟩) ?rg134
            case hg134 => (intro w0; go_simp; try with_reducible rfl)
            simp only [Act.put, List.setIfInBounds_toArray, List.set_cons_zero, List.set_cons_succ]
            refine wpAny_ready (rs := [14, 18]) (by kernel_rfl) (by simp) ?_
            refine AllReady.cons (o := _) rfl (fun K hK => ?_) (AllReady.cons (o := _) rfl (fun K hK => ?_) AllReady.nil)
            · first | (have kx0 := cell_keep B80 x0; have kx1 := cell_keep B80 x1; have kx2 := cell_keep B80 x2; go_simp; refine hK _ _ ?_)
              clear hK K
              refine wpAny_ready (rs := [15, 18]) (by kernel_rfl) (by simp) ?_
              refine AllReady.cons (o := _) rfl (fun K hK => ?_) (AllReady.cons (o := _) rfl (fun K hK => ?_) AllReady.nil)
              · go_simp
                first | (have hrd := rd_at0 RX.out B80; refine (verify_any own N xi xv Ax xm cx xp w80 (by omega) hrd).mono ?_)
                rintro e w86 ⟨rfl, hb86⟩
                have B86 : Below X.heap.size X w86 := by first | exact b_call B80 hb86
                clear hb86
                refine hK _ _ ?_
                clear hK K
                refine wpAny_ready (rs := [18]) (by kernel_rfl) (by simp) ?_
                refine AllReady.cons (o := _) rfl (fun K hK => ?_) AllReady.nil
                · first | (have kx0 := cell_keep B86 x0; have kx1 := cell_keep B86 x1; have kx2 := cell_keep B86 x2; go_simp; refine hK _ _ ?_) | (have kx0 := cell_keep B80 x0; have kx1 := cell_keep B80 x1; have kx2 := cell_keep B80 x2; go_simp; refine hK _ _ ?_)
                  clear hK K
                  refine wpAny_ready (rs := [19]) (by kernel_rfl) (by simp) ?_
                  refine AllReady.cons (o := _) rfl (fun K hK => ?_) AllReady.nil
                  · go_simp
                    first | (have hrd := rd_at0 RX.out B86; refine (rverify_any own N xi xv Ax xm cx xp w86 (by omega) hrd).mono ?_)
                    rintro e w90 ⟨rfl, hb90⟩
                    have B90 : Below X.heap.size X w90 := by first | exact b_call B86 hb90
                    clear hb90
                    refine hK _ _ ?_
                    clear hK K
                    refine take_at (i := 20) (some 91) (v := ?vg135) rfl rfl (by kernel_rfl) (by kernel_rfl) (by kernel_rfl) (fun _ _ _ h => h) (Or.inl ⟨by rfl, ?hg135⟩) ?rg135
                    case hg135 => (intro w0; go_simp; try with_reducible rfl)
                    simp only [Act.put, List.setIfInBounds_toArray, List.set_cons_zero, List.set_cons_succ]
                    refine take_at (i := 21) (some 92) (v := ?vg136) rfl rfl (by kernel_rfl) (by kernel_rfl) (by kernel_rfl) (fun _ _ _ h => h) (Or.inl ⟨by rfl, ?hg136⟩) ?rg136
                    case hg136 => (intro w0; go_simp; try with_reducible rfl)
                    simp only [Act.put, List.setIfInBounds_toArray, List.set_cons_zero, List.set_cons_succ]
                    refine take_at (i := 22) (some 93) (v := ?vg137) rfl rfl (by kernel_rfl) (by kernel_rfl) (by kernel_rfl) (fun _ _ _ h => h) (Or.inl ⟨by rfl, ?hg137⟩) ?rg137
                    case hg137 => (intro w0; go_simp; try with_reducible rfl)
                    simp only [Act.put, List.setIfInBounds_toArray, List.set_cons_zero, List.set_cons_succ]
                    refine wpAny_ready (rs := [23]) (by kernel_rfl) (by simp) ?_
                    refine AllReady.cons (o := _) rfl (fun K hK => ?_) AllReady.nil
                    go_simp
                    refine (lives_any w90).mono ?_
                    rintro e w94 ⟨rfl, hb94⟩
                    have B94 : Below X.heap.size X w94 := b_call B90 hb94
                    clear hb94
                    refine hK _ _ ?_
                    clear hK K
                    refine take_at (i := 24) (some 95) (v := ?vg139) rfl rfl (by kernel_rfl) (by kernel_rfl) (by kernel_rfl) (fun _ _ _ h => h) (Or.inl ⟨by rfl, ?hg139⟩) ?rg139
                    case hg139 => (intro w0; go_simp; try with_reducible rfl)
                    simp only [Act.put, List.setIfInBounds_toArray, List.set_cons_zero, List.set_cons_succ]
                    refine wpAny_ready (rs := [25]) (by kernel_rfl) (by simp) ?_
                    refine AllReady.cons (o := _) rfl (fun K hK => ?_) AllReady.nil
                    go_simp
                    refine hK _ _ ?_
                    clear hK K
                    refine wpAny_done (by kernel_rfl) ?_ _
                    go_wp2
                    go_ret
                    exact ⟨rfl, b_call BX.out B94⟩
              · first | (have kx0 := cell_keep B86 x0; have kx1 := cell_keep B86 x1; have kx2 := cell_keep B86 x2; go_simp; refine hK _ _ ?_) | (have kx0 := cell_keep B80 x0; have kx1 := cell_keep B80 x1; have kx2 := cell_keep B80 x2; go_simp; refine hK _ _ ?_)
                clear hK K
                refine wpAny_ready (rs := [15]) (by kernel_rfl) (by simp) ?_
                refine AllReady.cons (o := _) rfl (fun K hK => ?_) AllReady.nil
                · go_simp
                  first | (have hrd := rd_at0 RX.out B80; refine (verify_any own N xi xv Ax xm cx xp w80 (by omega) hrd).mono ?_)
                  rintro e w86 ⟨rfl, hb86⟩
                  have B86 : Below X.heap.size X w86 := by first | exact b_call B80 hb86
                  clear hb86
                  refine hK _ _ ?_
                  clear hK K
                  refine wpAny_ready (rs := [19]) (by kernel_rfl) (by simp) ?_
                  refine AllReady.cons (o := _) rfl (fun K hK => ?_) AllReady.nil
                  · go_simp
                    first | (have hrd := rd_at0 RX.out B86; refine (rverify_any own N xi xv Ax xm cx xp w86 (by omega) hrd).mono ?_)
                    rintro e w90 ⟨rfl, hb90⟩
                    have B90 : Below X.heap.size X w90 := by first | exact b_call B86 hb90
                    clear hb90
                    refine hK _ _ ?_
                    clear hK K
                    refine take_at (i := 20) (some 91) (v := ?vg143) rfl rfl (by kernel_rfl) (by kernel_rfl) (by kernel_rfl) (fun _ _ _ h => h) (Or.inl ⟨by rfl, ?hg143⟩) ?rg143
                    case hg143 => (intro w0; go_simp; try with_reducible rfl)
                    simp only [Act.put, List.setIfInBounds_toArray, List.set_cons_zero, List.set_cons_succ]
                    refine take_at (i := 21) (some 92) (v := ?vg144) rfl rfl (by kernel_rfl) (by kernel_rfl) (by kernel_rfl) (fun _ _ _ h => h) (Or.inl ⟨by rfl, ?hg144⟩) ?rg144
                    case hg144 => (intro w0; go_simp; try with_reducible rfl)
                    simp only [Act.put, List.setIfInBounds_toArray, List.set_cons_zero, List.set_cons_succ]
                    refine take_at (i := 22) (some 93) (v := ?vg145) rfl rfl (by kernel_rfl) (by kernel_rfl) (by kernel_rfl) (fun _ _ _ h => h) (Or.inl ⟨by rfl, ?hg145⟩) ?rg145
                    case hg145 => (intro w0; go_simp; try with_reducible rfl)
                    simp only [Act.put, List.setIfInBounds_toArray, List.set_cons_zero, List.set_cons_succ]
                    refine wpAny_ready (rs := [23]) (by kernel_rfl) (by simp) ?_
                    refine AllReady.cons (o := _) rfl (fun K hK => ?_) AllReady.nil
                    go_simp
                    refine (lives_any w90).mono ?_
                    rintro e w94 ⟨rfl, hb94⟩
                    have B94 : Below X.heap.size X w94 := b_call B90 hb94
                    clear hb94
                    refine hK _ _ ?_
                    clear hK K
                    refine take_at (i := 24) (some 95) (v := ?vg147) rfl rfl (by kernel_rfl) (by kernel_rfl) (by kernel_rfl) (fun _ _ _ h => h) (Or.inl ⟨by rfl, ?hg147⟩) ?rg147
                    case hg147 => (intro w0; go_simp; try with_reducible rfl)
                    simp only [Act.put, List.setIfInBounds_toArray, List.set_cons_zero, List.set_cons_succ]
                    refine wpAny_ready (rs := [25]) (by kernel_rfl) (by simp) ?_
                    refine AllReady.cons (o := _) rfl (fun K hK => ?_) AllReady.nil
                    go_simp
                    refine hK _ _ ?_
                    clear hK K
                    refine wpAny_done (by kernel_rfl) ?_ _
                    go_wp2
                    go_ret
                    exact ⟨rfl, b_call BX.out B94⟩
            · first | (have kx0 := cell_keep B86 x0; have kx1 := cell_keep B86 x1; have kx2 := cell_keep B86 x2; go_simp; refine hK _ _ ?_) | (have kx0 := cell_keep B80 x0; have kx1 := cell_keep B80 x1; have kx2 := cell_keep B80 x2; go_simp; refine hK _ _ ?_)
              clear hK K
              refine wpAny_ready (rs := [14]) (by kernel_rfl) (by simp) ?_
              refine AllReady.cons (o := _) rfl (fun K hK => ?_) AllReady.nil
              · first | (have kx0 := cell_keep B80 x0; have kx1 := cell_keep B80 x1; have kx2 := cell_keep B80 x2; go_simp; refine hK _ _ ?_)
                clear hK K
                refine wpAny_ready (rs := [15]) (by kernel_rfl) (by simp) ?_
                refine AllReady.cons (o := _) rfl (fun K hK => ?_) AllReady.nil
                · go_simp
                  first | (have hrd := rd_at0 RX.out B80; refine (verify_any own N xi xv Ax xm cx xp w80 (by omega) hrd).mono ?_)
                  rintro e w86 ⟨rfl, hb86⟩
                  have B86 : Below X.heap.size X w86 := by first | exact b_call B80 hb86
                  clear hb86
                  refine hK _ _ ?_
                  clear hK K
                  refine wpAny_ready (rs := [19]) (by kernel_rfl) (by simp) ?_
                  refine AllReady.cons (o := _) rfl (fun K hK => ?_) AllReady.nil
                  · go_simp
                    first | (have hrd := rd_at0 RX.out B86; refine (rverify_any own N xi xv Ax xm cx xp w86 (by omega) hrd).mono ?_)
                    rintro e w90 ⟨rfl, hb90⟩
                    have B90 : Below X.heap.size X w90 := by first | exact b_call B86 hb90
                    clear hb90
                    refine hK _ _ ?_
                    clear hK K
                    refine take_at (i := 20) (some 91) (v := ?vg151) rfl rfl (by kernel_rfl) (by kernel_rfl) (by kernel_rfl) (fun _ _ _ h => h) (Or.inl ⟨by rfl, ?hg151⟩) ?rg151
                    case hg151 => (intro w0; go_simp; try with_reducible rfl)
                    simp only [Act.put, List.setIfInBounds_toArray, List.set_cons_zero, List.set_cons_succ]
                    refine take_at (i := 21) (some 92) (v := ?vg152) rfl rfl (by kernel_rfl) (by kernel_rfl) (by kernel_rfl) (fun _ _ _ h => h) (Or.inl ⟨by rfl, ?hg152⟩) ?rg152
                    case hg152 => (intro w0; go_simp; try with_reducible rfl)
                    simp only [Act.put, List.setIfInBounds_toArray, List.set_cons_zero, List.set_cons_succ]
                    refine take_at (i := 22) (some 93) (v := ?vg153) rfl rfl (by kernel_rfl) (by kernel_rfl) (by kernel_rfl) (fun _ _ _ h => h) (Or.inl ⟨by rfl, ?hg153⟩) ?rg153
                    case hg153 => (intro w0; go_simp; try with_reducible rfl)
                    simp only [Act.put, List.setIfInBounds_toArray, List.set_cons_zero, List.set_cons_succ]
                    refine wpAny_ready (rs := [23]) (by kernel_rfl) (by simp) ?_
                    refine AllReady.cons (o := _) rfl (fun K hK => ?_) AllReady.nil
                    go_simp
                    refine (lives_any w90).mono ?_
                    rintro e w94 ⟨rfl, hb94⟩
                    have B94 : Below X.heap.size X w94 := b_call B90 hb94
                    clear hb94
                    refine hK _ _ ?_
                    clear hK K
                    refine take_at (i := 24) (some 95) (v := ?vg155) rfl rfl (by kernel_rfl) (by kernel_rfl) (by kernel_rfl) (fun _ _ _ h => h) (Or.inl ⟨by rfl, ?hg155⟩) ?rg155
                    case hg155 => (intro w0; go_simp; try with_reducible rfl)
                    simp only [Act.put, List.setIfInBounds_toArray, List.set_cons_zero, List.set_cons_succ]
                    refine wpAny_ready (rs := [25]) (by kernel_rfl) (by simp) ?_
                    refine AllReady.cons (o := _) rfl (fun K hK => ?_) AllReady.nil
                    go_simp
                    refine hK _ _ ?_
                    clear hK K
                    refine wpAny_done (by kernel_rfl) ?_ _
                    go_wp2
                    go_ret
                    exact ⟨rfl, b_call BX.out B94⟩
      · first | (have ky0 := cell_keep B75 y0; have ky1 := cell_keep B75 y1; have ky2 := cell_keep B75 y2; go_simp; refine hK _ _ ?_) | (have ky0 := cell_keep B0 y0; have ky1 := cell_keep B0 y1; have ky2 := cell_keep B0 y2; go_simp; refine hK _ _ ?_)
        clear hK K
        refine wpAny_ready (rs := [4]) (by kernel_rfl) (by simp) ?_
        refine AllReady.cons (o := _) rfl (fun K hK => ?_) AllReady.nil
        · go_simp
          first | (have hrd := rd_at0 RY.out B0; refine (verify_any own q yi yv Ay ym cy yp Y.drew (by omega) hrd).mono ?_)
          rintro e w75 ⟨rfl, hb75⟩
          have B75 : Below X.heap.size X w75 := by first | exact b_call B0 hb75
          clear hb75
          refine hK _ _ ?_
          clear hK K
          refine wpAny_ready (rs := [9]) (by kernel_rfl) (by simp) ?_
          refine AllReady.cons (o := _) rfl (fun K hK => ?_) AllReady.nil
          · go_simp
            first | (have hrd := rd_at0 RY.out B75; refine (rverify_any own q yi yv Ay ym cy yp w75 (by omega) hrd).mono ?_)
            rintro e w80 ⟨rfl, hb80⟩
            have B80 : Below X.heap.size X w80 := by first | exact b_call B75 hb80
            clear hb80
            refine hK _ _ ?_
            clear hK K
            refine take_at (i := 10) (some 81) (v := ?vg159) rfl rfl (by kernel_rfl) (by kernel_rfl) (by kernel_rfl) (fun _ _ _ h => h) (Or.inl ⟨by rfl, ?hg159⟩) ?rg159
            case hg159 => (intro w0; go_simp; try with_reducible rfl)
            simp only [Act.put, List.setIfInBounds_toArray, List.set_cons_zero, List.set_cons_succ]
            refine take_at (i := 11) (some 82) (v := ?vg160) rfl rfl (by kernel_rfl) (by kernel_rfl) (by kernel_rfl) (fun _ _ _ h => h) (Or.inl ⟨by rfl, ?hg160⟩) ?rg160
            case hg160 => (intro w0; go_simp; try with_reducible rfl)
            simp only [Act.put, List.setIfInBounds_toArray, List.set_cons_zero, List.set_cons_succ]
            refine take_at (i := 12) (some 83) (v := ?vg161) rfl rfl (by kernel_rfl) (by kernel_rfl) (by kernel_rfl) (fun _ _ _ h => h) (Or.inl ⟨by rfl, ?hg161⟩) ?rg161
            case hg161 => (intro w0; go_simp; try with_reducible rfl)
            simp only [Act.put, List.setIfInBounds_toArray, List.set_cons_zero, List.set_cons_succ]
            refine take_at (i := 13) (some 84) (v := ?vg162) rfl rfl (by kernel_rfl) (by kernel_rfl) (by kernel_rfl) (fun _ _ _ h => h) (Or.inl ⟨by rfl, ?hg162⟩) ?rg162
            case hg162 => (intro w0; go_simp; try with_reducible rfl)
            simp only [Act.put, List.setIfInBounds_toArray, List.set_cons_zero, List.set_cons_succ]
            refine take_at (i := 16) (some 87) (v := ?vg163) rfl rfl (by kernel_rfl) (by kernel_rfl) (by kernel_rfl) (fun _ _ _ h => h) (Or.inl ⟨by rfl, ?hg163⟩) ?rg163
            case hg163 => (intro w0; go_simp; try with_reducible rfl)
            simp only [Act.put, List.setIfInBounds_toArray, List.set_cons_zero, List.set_cons_succ]
            refine take_at (i := 17) (some 88) (v := ?vg164) rfl rfl (by kernel_rfl) (by kernel_rfl) (by kernel_rfl) (fun _ _ _ h => h) (Or.inl ⟨by rfl, ?hg164⟩) ?rg164
            case hg164 => (intro w0; go_simp; try with_reducible rfl)
            simp only [Act.put, List.setIfInBounds_toArray, List.set_cons_zero, List.set_cons_succ]
            refine wpAny_ready (rs := [14, 18]) (by kernel_rfl) (by simp) ?_
            refine AllReady.cons (o := _) rfl (fun K hK => ?_) (AllReady.cons (o := _) rfl (fun K hK => ?_) AllReady.nil)
            · first | (have kx0 := cell_keep B80 x0; have kx1 := cell_keep B80 x1; have kx2 := cell_keep B80 x2; go_simp; refine hK _ _ ?_)
              clear hK K
              refine wpAny_ready (rs := [15, 18]) (by kernel_rfl) (by simp) ?_
              refine AllReady.cons (o := _) rfl (fun K hK => ?_) (AllReady.cons (o := _) rfl (fun K hK => ?_) AllReady.nil)
              · go_simp
                first | (have hrd := rd_at0 RX.out B80; refine (verify_any own N xi xv Ax xm cx xp w80 (by omega) hrd).mono ?_)
                rintro e w86 ⟨rfl, hb86⟩
                have B86 : Below X.heap.size X w86 := by first | exact b_call B80 hb86
                clear hb86
                refine hK _ _ ?_
                clear hK K
                refine wpAny_ready (rs := [18]) (by kernel_rfl) (by simp) ?_
                refine AllReady.cons (o := _) rfl (fun K hK => ?_) AllReady.nil
                · first | (have kx0 := cell_keep B86 x0; have kx1 := cell_keep B86 x1; have kx2 := cell_keep B86 x2; go_simp; refine hK _ _ ?_) | (have kx0 := cell_keep B80 x0; have kx1 := cell_keep B80 x1; have kx2 := cell_keep B80 x2; go_simp; refine hK _ _ ?_)
                  clear hK K
                  refine wpAny_ready (rs := [19]) (by kernel_rfl) (by simp) ?_
                  refine AllReady.cons (o := _) rfl (fun K hK => ?_) AllReady.nil
                  · go_simp
                    first | (have hrd := rd_at0 RX.out B86; refine (rverify_any own N xi xv Ax xm cx xp w86 (by omega) hrd).mono ?_)
                    rintro e w90 ⟨rfl, hb90⟩
                    have B90 : Below X.heap.size X w90 := by first | exact b_call B86 hb90
                    clear hb90
                    refine hK _ _ ?_
                    clear hK K
                    refine take_at (i := 20) (some 91) (v := ?vg165) rfl rfl (by kernel_rfl) (by kernel_rfl) (by kernel_rfl) (fun _ _ _ h => h) (Or.inl ⟨by rfl, ?hg165⟩) ?rg165
                    case hg165 => (intro w0; go_simp; try with_reducible rfl)
                    simp only [Act.put, List.setIfInBounds_toArray, List.set_cons_zero, List.set_cons_succ]
                    refine take_at (i := 21) (some 92) (v := ?vg166) rfl rfl (by kernel_rfl) (by kernel_rfl) (by kernel_rfl) (fun _ _ _ h => h) (Or.inl ⟨by rfl, ?hg166⟩) ?rg166
                    case hg166 => (intro w0; go_simp; try with_reducible rfl)
                    simp only [Act.put, List.setIfInBounds_toArray, List.set_cons_zero, List.set_cons_succ]
                    refine take_at (i := 22) (some 93) (v := ?vg167) rfl rfl (by kernel_rfl) (by kernel_rfl) (by kernel_rfl) (fun _ _ _ h => h) (Or.inl ⟨by rfl, ?hg167⟩) ?rg167
                    case hg167 => (intro w0; go_simp; try with_reducible rfl)
                    simp only [Act.put, List.setIfInBounds_toArray, List.set_cons_zero, List.set_cons_succ]
                    refine wpAny_ready (rs := [23]) (by kernel_rfl) (by simp) ?_
                    refine AllReady.cons (o := _) rfl (fun K hK => ?_) AllReady.nil
                    go_simp
                    refine (lives_any w90).mono ?_
                    rintro e w94 ⟨rfl, hb94⟩
                    have B94 : Below X.heap.size X w94 := b_call B90 hb94
                    clear hb94
                    refine hK _ _ ?_
                    clear hK K
                    refine take_at (i := 24) (some 95) (v := ?vg169) rfl rfl (by kernel_rfl) (by kernel_rfl) (by kernel_rfl) (fun _ _ _ h => h) (Or.inl ⟨by rfl, ?hg169⟩) ?rg169
                    case hg169 => (intro w0; go_simp; try with_reducible rfl)
                    simp only [Act.put, List.setIfInBounds_toArray, List.set_cons_zero, List.set_cons_succ]
                    refine wpAny_ready (rs := [25]) (by kernel_rfl) (by simp) ?_
                    refine AllReady.cons (o := _) rfl (fun K hK => ?_) AllReady.nil
                    go_simp
                    refine hK _ _ ?_
                    clear hK K
                    refine wpAny_done (by kernel_rfl) ?_ _
                    go_wp2
                    go_ret
                    exact ⟨rfl, b_call BX.out B94⟩
              · first | (have kx0 := cell_keep B86 x0; have kx1 := cell_keep B86 x1; have kx2 := cell_keep B86 x2; go_simp; refine hK _ _ ?_) | (have kx0 := cell_keep B80 x0; have kx1 := cell_keep B80 x1; have kx2 := cell_keep B80 x2; go_simp; refine hK _ _ ?_)
                clear hK K
                refine wpAny_ready (rs := [15]) (by kernel_rfl) (by simp) ?_
                refine AllReady.cons (o := _) rfl (fun K hK => ?_) AllReady.nil
                · go_simp
                  first | (have hrd := rd_at0 RX.out B80; refine (verify_any own N xi xv Ax xm cx xp w80 (by omega) hrd).mono ?_)
                  rintro e w86 ⟨rfl, hb86⟩
                  have B86 : Below X.heap.size X w86 := by first | exact b_call B80 hb86
                  clear hb86
                  refine hK _ _ ?_
                  clear hK K
                  refine wpAny_ready (rs := [19]) (by kernel_rfl) (by simp) ?_
                  refine AllReady.cons (o := _) rfl (fun K hK => ?_) AllReady.nil
                  · go_simp
                    first | (have hrd := rd_at0 RX.out B86; refine (rverify_any own N xi xv Ax xm cx xp w86 (by omega) hrd).mono ?_)
                    rintro e w90 ⟨rfl, hb90⟩
                    have B90 : Below X.heap.size X w90 := by first | exact b_call B86 hb90
                    clear hb90
                    refine hK _ _ ?_
                    clear hK K
                    refine take_at (i := 20) (some 91) (v := ?vg173) rfl rfl (by kernel_rfl) (by kernel_rfl) (by kernel_rfl) (fun _ _ _ h => h) (Or.inl ⟨by rfl, ?hg173⟩) ?rg173
                    case hg173 => (intro w0; go_simp; try with_reducible rfl)
                    simp only [Act.put, List.setIfInBounds_toArray, List.set_cons_zero, List.set_cons_succ]
                    refine take_at (i := 21) (some 92) (v := ?vg174) rfl rfl (by kernel_rfl) (by kernel_rfl) (by kernel_rfl) (fun _ _ _ h => h) (Or.inl ⟨by rfl, ?hg174⟩) ?rg174
                    case hg174 => (intro w0; go_simp; try with_reducible rfl)
                    simp only [Act.put, List.setIfInBounds_toArray, List.set_cons_zero, List.set_cons_succ]
                    refine take_at (i := 22) (some 93) (v := ?vg175) rfl rfl (by kernel_rfl) (by kernel_rfl) (by kernel_rfl) (fun _ _ _ h => h) (Or.inl ⟨by rfl, ?hg175⟩) ?rg175
                    case hg175 => (intro w0; go_simp; try with_reducible rfl)
                    simp only [Act.put, List.setIfInBounds_toArray, List.set_cons_zero, List.set_cons_succ]
                    refine wpAny_ready (rs := [23]) (by kernel_rfl) (by simp) ?_
                    refine AllReady.cons (o := _) rfl (fun K hK => ?_) AllReady.nil
                    go_simp
                    refine (lives_any w90).mono ?_
                    rintro e w94 ⟨rfl, hb94⟩
                    have B94 : Below X.heap.size X w94 := b_call B90 hb94
                    clear hb94
                    refine hK _ _ ?_
                    clear hK K
                    refine take_at (i := 24) (some 95) (v := ?vg177) rfl rfl (by kernel_rfl) (by kernel_rfl) (by kernel_rfl) (fun _ _ _ h => h) (Or.inl ⟨by rfl, ?hg177⟩) ?rg177
                    case hg177 => (intro w0; go_simp; try with_reducible rfl)
                    simp only [Act.put, List.setIfInBounds_toArray, List.set_cons_zero, List.set_cons_succ]
                    refine wpAny_ready (rs := [25]) (by kernel_rfl) (by simp) ?_
                    refine AllReady.cons (o := _) rfl (fun K hK => ?_) AllReady.nil
                    go_simp
                    refine hK _ _ ?_
                    clear hK K
                    refine wpAny_done (by kernel_rfl) ?_ _
                    go_wp2
                    go_ret
                    exact ⟨rfl, b_call BX.out B94⟩
            · first | (have kx0 := cell_keep B86 x0; have kx1 := cell_keep B86 x1; have kx2 := cell_keep B86 x2; go_simp; refine hK _ _ ?_) | (have kx0 := cell_keep B80 x0; have kx1 := cell_keep B80 x1; have kx2 := cell_keep B80 x2; go_simp; refine hK _ _ ?_)
              clear hK K
              refine wpAny_ready (rs := [14]) (by kernel_rfl) (by simp) ?_
              refine AllReady.cons (o := _) rfl (fun K hK => ?_) AllReady.nil
              · first | (have kx0 := cell_keep B80 x0; have kx1 := cell_keep B80 x1; have kx2 := cell_keep B80 x2; go_simp; refine hK _ _ ?_)
                clear hK K
                refine wpAny_ready (rs := [15]) (by kernel_rfl) (by simp) ?_
                refine AllReady.cons (o := _) rfl (fun K hK => ?_) AllReady.nil
                · go_simp
                  first | (have hrd := rd_at0 RX.out B80; refine (verify_any own N xi xv Ax xm cx xp w80 (by omega) hrd).mono ?_)
                  rintro e w86 ⟨rfl, hb86⟩
                  have B86 : Below X.heap.size X w86 := by first | exact b_call B80 hb86
                  clear hb86
                  refine hK _ _ ?_
                  clear hK K
                  refine wpAny_ready (rs := [19]) (by kernel_rfl) (by simp) ?_
                  refine AllReady.cons (o := _) rfl (fun K hK => ?_) AllReady.nil
                  · go_simp
                    first | (have hrd := rd_at0 RX.out B86; refine (rverify_any own N xi xv Ax xm cx xp w86 (by omega) hrd).mono ?_)
                    rintro e w90 ⟨rfl, hb90⟩
                    have B90 : Below X.heap.size X w90 := by first | exact b_call B86 hb90
                    clear hb90
                    refine hK _ _ ?_
                    clear hK K
                    refine take_at (i := 20) (some 91) (v := ?vg181) rfl rfl (by kernel_rfl) (by kernel_rfl) (by kernel_rfl) (fun _ _ _ h => h) (Or.inl ⟨by rfl, ?hg181⟩) ?rg181
                    case hg181 => (intro w0; go_simp; try with_reducible rfl)
                    simp only [Act.put, List.setIfInBounds_toArray, List.set_cons_zero, List.set_cons_succ]
                    refine take_at (i := 21) (some 92) (v := ?vg182) rfl rfl (by kernel_rfl) (by kernel_rfl) (by kernel_rfl) (fun _ _ _ h => h) (Or.inl ⟨by rfl, ?hg182⟩) ?rg182
                    case hg182 => (intro w0; go_simp; try with_reducible rfl)
                    simp only [Act.put, List.setIfInBounds_toArray, List.set_cons_zero, List.set_cons_succ]
                    refine take_at (i := 22) (some 93) (v := ?vg183) rfl rfl (by kernel_rfl) (by kernel_rfl) (by kernel_rfl) (fun _ _ _ h => h) (Or.inl ⟨by rfl, ?hg183⟩) ?rg183
                    case hg183 => (intro w0; go_simp; try with_reducible rfl)
                    simp only [Act.put, List.setIfInBounds_toArray, List.set_cons_zero, List.set_cons_succ]
                    refine wpAny_ready (rs := [23]) (by kernel_rfl) (by simp) ?_
                    refine AllReady.cons (o := _) rfl (fun K hK => ?_) AllReady.nil
                    go_simp
                    refine (lives_any w90).mono ?_
                    rintro e w94 ⟨rfl, hb94⟩
                    have B94 : Below X.heap.size X w94 := b_call B90 hb94
                    clear hb94
                    refine hK _ _ ?_
                    clear hK K
                    refine take_at (i := 24) (some 95) (v := ?vg185) rfl rfl (by kernel_rfl) (by kernel_rfl) (by kernel_rfl) (fun _ _ _ h => h) (Or.inl ⟨by rfl, ?hg185⟩) ?rg185
                    case hg185 => (intro w0; go_simp; try with_reducible rfl)
                    simp only [Act.put, List.setIfInBounds_toArray, List.set_cons_zero, List.set_cons_succ]
                    refine wpAny_ready (rs := [25]) (by kernel_rfl) (by simp) ?_
                    refine AllReady.cons (o := _) rfl (fun K hK => ?_) AllReady.nil
                    go_simp
                    refine hK _ _ ?_
                    clear hK K
                    refine wpAny_done (by kernel_rfl) ?_ _
                    go_wp2
                    go_ret
                    exact ⟨rfl, b_call BX.out B94⟩
    · first | (have ky0 := cell_keep B75 y0; have ky1 := cell_keep B75 y1; have ky2 := cell_keep B75 y2; go_simp; refine hK _ _ ?_) | (have ky0 := cell_keep B0 y0; have ky1 := cell_keep B0 y1; have ky2 := cell_keep B0 y2; go_simp; refine hK _ _ ?_)
      clear hK K
      refine wpAny_ready (rs := [3]) (by kernel_rfl) (by simp) ?_
      refine AllReady.cons (o := _) rfl (fun K hK => ?_) AllReady.nil
      · first | (have ky0 := cell_keep B0 y0; have ky1 := cell_keep B0 y1; have ky2 := cell_keep B0 y2; go_simp; refine hK _ _ ?_)
        clear hK K
        refine wpAny_ready (rs := [4]) (by kernel_rfl) (by simp) ?_
        refine AllReady.cons (o := _) rfl (fun K hK => ?_) AllReady.nil
        · go_simp
          first | (have hrd := rd_at0 RY.out B0; refine (verify_any own q yi yv Ay ym cy yp Y.drew (by omega) hrd).mono ?_)
          rintro e w75 ⟨rfl, hb75⟩
          have B75 : Below X.heap.size X w75 := by first | exact b_call B0 hb75
          clear hb75
          refine hK _ _ ?_
          clear hK K
          refine wpAny_ready (rs := [9]) (by kernel_rfl) (by simp) ?_
          refine AllReady.cons (o := _) rfl (fun K hK => ?_) AllReady.nil
          · go_simp
            first | (have hrd := rd_at0 RY.out B75; refine (rverify_any own q yi yv Ay ym cy yp w75 (by omega) hrd).mono ?_)
            rintro e w80 ⟨rfl, hb80⟩
            have B80 : Below X.heap.size X w80 := by first | exact b_call B75 hb80
            clear hb80
            refine hK _ _ ?_
            clear hK K
            refine take_at (i := 10) (some 81) (v := ?vg189) rfl rfl (by kernel_rfl) (by kernel_rfl) (by kernel_rfl) (fun _ _ _ h => h) (Or.inl ⟨by rfl, ?hg189⟩) ?rg189
            case hg189 => (intro w0; go_simp; try with_reducible rfl)
            simp only [Act.put, List.setIfInBounds_toArray, List.set_cons_zero, List.set_cons_succ]
            refine take_at (i := 11) (some 82) (v := ?vg190) rfl rfl (by kernel_rfl) (by kernel_rfl) (by kernel_rfl) (fun _ _ _ h => h) (Or.inl ⟨by rfl, ?hg190⟩) ?rg190
            case hg190 => (intro w0; go_simp; try with_reducible rfl)
            simp only [Act.put, List.setIfInBounds_toArray, List.set_cons_zero, List.set_cons_succ]
            refine take_at (i := 12) (some 83) (v := ?vg191) rfl rfl (by kernel_rfl) (by kernel_rfl) (by kernel_rfl) (fun _ _ _ h => h) (Or.inl ⟨by rfl, ?hg191⟩) ?rg191
            case hg191 => (intro w0; go_simp; try with_reducible rfl)
            simp only [Act.put, List.setIfInBounds_toArray, List.set_cons_zero, List.set_cons_succ]
            refine take_at (i := 13) (some 84) (v := ?vg192) rfl rfl (by kernel_rfl) (by kernel_rfl) (by kernel_rfl) (fun _ _ _ h => h) (Or.inl ⟨by rfl, ?hg192⟩) ?rg192
            case hg192 => (intro w0; go_simp; try with_reducible rfl)
            simp only [Act.put, List.setIfInBounds_toArray, List.set_cons_zero, List.set_cons_succ]
            refine take_at (i := 16) (some 87) (v := ?vg193) rfl rfl (by kernel_rfl) (by kernel_rfl) (by kernel_rfl) (fun _ _ _ h => h) (Or.inl ⟨by rfl, ?hg193⟩) ?rg193
            case hg193 => (intro w0; go_simp; try with_reducible rfl)
            simp only [Act.put, List.setIfInBounds_toArray, List.set_cons_zero, List.set_cons_succ]
            refine take_at (i := 17) (some 88) (v := ?vg194) rfl rfl (by kernel_rfl) (by kernel_rfl) (by kernel_rfl) (fun _ _ _ h => h) (Or.inl ⟨by rfl, ?hg194⟩) ?rg194
            case hg194 => (intro w0; go_simp; try with_reducible rfl)
            simp only [Act.put, List.setIfInBounds_toArray, List.set_cons_zero, List.set_cons_succ]
            refine wpAny_ready (rs := [14, 18]) (by kernel_rfl) (by simp) ?_
            refine AllReady.cons (o := _) rfl (fun K hK => ?_) (AllReady.cons (o := _) rfl (fun K hK => ?_) AllReady.nil)
            · first | (have kx0 := cell_keep B80 x0; have kx1 := cell_keep B80 x1; have kx2 := cell_keep B80 x2; go_simp; refine hK _ _ ?_)
              clear hK K
              refine wpAny_ready (rs := [15, 18]) (by kernel_rfl) (by simp) ?_
              refine AllReady.cons (o := _) rfl (fun K hK => ?_) (AllReady.cons (o := _) rfl (fun K hK => ?_) AllReady.nil)
              · go_simp
                first | (have hrd := rd_at0 RX.out B80; refine (verify_any own N xi xv Ax xm cx xp w80 (by omega) hrd).mono ?_)
                rintro e w86 ⟨rfl, hb86⟩
                have B86 : Below X.heap.size X w86 := by first | exact b_call B80 hb86
                clear hb86
                refine hK _ _ ?_
                clear hK K
                refine wpAny_ready (rs := [18]) (by kernel_rfl) (by simp) ?_
                refine AllReady.cons (o := _) rfl (fun K hK => ?_) AllReady.nil
                · first | (have kx0 := cell_keep B86 x0; have kx1 := cell_keep B86 x1; have kx2 := cell_keep B86 x2; go_simp; refine hK _ _ ?_) | (have kx0 := cell_keep B80 x0; have kx1 := cell_keep B80 x1; have kx2 := cell_keep B80 x2; go_simp; refine hK _ _ ?_)
                  clear hK K
                  refine wpAny_ready (rs := [19]) (by kernel_rfl) (by simp) ?_
                  refine AllReady.cons (o := _) rfl (fun K hK => ?_) AllReady.nil
                  · go_simp
                    first | (have hrd := rd_at0 RX.out B86; refine (rverify_any own N xi xv Ax xm cx xp w86 (by omega) hrd).mono ?_)
                    rintro e w90 ⟨rfl, hb90⟩
                    have B90 : Below X.heap.size X w90 := by first | exact b_call B86 hb90
                    clear hb90
                    refine hK _ _ ?_
                    clear hK K
                    refine take_at (i := 20) (some 91) (v := ?vg195) rfl rfl (by kernel_rfl) (by kernel_rfl) (by kernel_rfl) (fun _ _ _ h => h) (Or.inl ⟨by rfl, ?hg195⟩) ?rg195
                    case hg195 => (intro w0; go_simp; try with_reducible rfl)
                    simp only [Act.put, List.setIfInBounds_toArray, List.set_cons_zero, List.set_cons_succ]
                    refine take_at (i := 21) (some 92) (v := ?vg196) rfl rfl (by kernel_rfl) (by kernel_rfl) (by kernel_rfl) (fun _ _ _ h => h) (Or.inl ⟨by rfl, ?hg196⟩) ?rg196
                    case hg196 => (intro w0; go_simp; try with_reducible rfl)
                    simp only [Act.put, List.setIfInBounds_toArray, List.set_cons_zero, List.set_cons_succ]
                    refine take_at (i := 22) (some 93) (v := ?vg197) rfl rfl (by kernel_rfl) (by kernel_rfl) (by kernel_rfl) (fun _ _ _ h => h) (Or.inl ⟨by rfl, ?hg197⟩) ?rg197
                    case hg197 => (intro w0; go_simp; try with_reducible rfl)
                    simp only [Act.put, List.setIfInBounds_toArray, List.set_cons_zero, List.set_cons_succ]
                    refine wpAny_ready (rs := [23]) (by kernel_rfl) (by simp) ?_
                    refine AllReady.cons (o := _) rfl (fun K hK => ?_) AllReady.nil
                    go_simp
                    refine (lives_any w90).mono ?_
                    rintro e w94 ⟨rfl, hb94⟩
                    have B94 : Below X.heap.size X w94 := b_call B90 hb94
                    clear hb94
                    refine hK _ _ ?_
                    clear hK K
                    refine take_at (i := 24) (some 95) (v := ?vg199) rfl rfl (by kernel_rfl) (by kernel_rfl) (by kernel_rfl) (fun _ _ _ h => h) (Or.inl ⟨by rfl, ?hg199⟩) ?rg199
                    case hg199 => (intro w0; go_simp; try with_reducible rfl)
                    simp only [Act.put, List.setIfInBounds_toArray, List.set_cons_zero, List.set_cons_succ]
                    refine wpAny_ready (rs := [25]) (by kernel_rfl) (by simp) ?_
                    refine AllReady.cons (o := _) rfl (fun K hK => ?_) AllReady.nil
                    go_simp
                    refine hK _ _ ?_
                    clear hK K
                    refine wpAny_done (by kernel_rfl) ?_ _
                    go_wp2
                    go_ret
                    exact ⟨rfl, b_call BX.out B94⟩
              · first | (have kx0 := cell_keep B86 x0; have kx1 := cell_keep B86 x1; have kx2 := cell_keep B86 x2; go_simp; refine hK _ _ ?_) | (have kx0 := cell_keep B80 x0; have kx1 := cell_keep B80 x1; have kx2 := cell_keep B80 x2; go_simp; refine hK _ _ ?_)
                clear hK K
                refine wpAny_ready (rs := [15]) (by kernel_rfl) (by simp) ?_
                refine AllReady.cons (o := _) rfl (fun K hK => ?_) AllReady.nil
                · go_simp
                  first | (have hrd := rd_at0 RX.out B80; refine (verify_any own N xi xv Ax xm cx xp w80 (by omega) hrd).mono ?_)
                  rintro e w86 ⟨rfl, hb86⟩
                  have B86 : Below X.heap.size X w86 := by first | exact b_call B80 hb86
                  clear hb86
                  refine hK _ _ ?_
                  clear hK K
                  refine wpAny_ready (rs := [19]) (by kernel_rfl) (by simp) ?_
                  refine AllReady.cons (o := _) rfl (fun K hK => ?_) AllReady.nil
                  · go_simp
                    first | (have hrd := rd_at0 RX.out B86; refine (rverify_any own N xi xv Ax xm cx xp w86 (by omega) hrd).mono ?_)
                    rintro e w90 ⟨rfl, hb90⟩
                    have B90 : Below X.heap.size X w90 := by first | exact b_call B86 hb90
                    clear hb90
                    refine hK _ _ ?_
                    clear hK K
                    refine take_at (i := 20) (some 91) (v := ?vg203) rfl rfl (by kernel_rfl) (by kernel_rfl) (by kernel_rfl) (fun _ _ _ h => h) (Or.inl ⟨by rfl, ?hg203⟩) ?rg203
                    case hg203 => (intro w0; go_simp; try with_reducible rfl)
                    simp only [Act.put, List.setIfInBounds_toArray, List.set_cons_zero, List.set_cons_succ]
                    refine take_at (i := 21) (some 92) (v := ?vg204) rfl rfl (by kernel_rfl) (by kernel_rfl) (by kernel_rfl) (fun _ _ _ h => h) (Or.inl ⟨by rfl, ?hg204⟩) ?rg204
                    case hg204 => (intro w0; go_simp; try with_reducible rfl)
                    simp only [Act.put, List.setIfInBounds_toArray, List.set_cons_zero, List.set_cons_succ]
                    refine take_at (i := 22) (some 93) (v := ?vg205) rfl rfl (by kernel_rfl) (by kernel_rfl) (by kernel_rfl) (fun _ _ _ h => h) (Or.inl ⟨by rfl, ?hg205⟩) ?rg205
                    case hg205 => (intro w0; go_simp; try with_reducible rfl)
                    simp only [Act.put, List.setIfInBounds_toArray, List.set_cons_zero, List.set_cons_succ]
                    refine wpAny_ready (rs := [23]) (by kernel_rfl) (by simp) ?_
                    refine AllReady.cons (o := _) rfl (fun K hK => ?_) AllReady.nil
                    go_simp
                    refine (lives_any w90).mono ?_
                    rintro e w94 ⟨rfl, hb94⟩
                    have B94 : Below X.heap.size X w94 := b_call B90 hb94
                    clear hb94
                    refine hK _ _ ?_
                    clear hK K
                    refine take_at (i := 24) (some 95) (v := ?vg207) rfl rfl (by kernel_rfl) (by kernel_rfl) (by kernel_rfl) (fun _ _ _ h => h) (Or.inl ⟨by rfl, ?hg207⟩) ?rg207
                    case hg207 => (intro w0; go_simp; try with_reducible rfl)
                    simp only [Act.put, List.setIfInBounds_toArray, List.set_cons_zero, List.set_cons_succ]
                    refine wpAny_ready (rs := [25]) (by kernel_rfl) (by simp) ?_
                    refine AllReady.cons (o := _) rfl (fun K hK => ?_) AllReady.nil
                    go_simp
                    refine hK _ _ ?_
                    clear hK K
                    refine wpAny_done (by kernel_rfl) ?_ _
                    go_wp2
                    go_ret
                    exact ⟨rfl, b_call BX.out B94⟩
            · first | (have kx0 := cell_keep B86 x0; have kx1 := cell_keep B86 x1; have kx2 := cell_keep B86 x2; go_simp; refine hK _ _ ?_) | (have kx0 := cell_keep B80 x0; have kx1 := cell_keep B80 x1; have kx2 := cell_keep B80 x2; go_simp; refine hK _ _ ?_)
              clear hK K
              refine wpAny_ready (rs := [14]) (by kernel_rfl) (by simp) ?_
              refine AllReady.cons (o := _) rfl (fun K hK => ?_) AllReady.nil
              · first | (have kx0 := cell_keep B80 x0; have kx1 := cell_keep B80 x1; have kx2 := cell_keep B80 x2; go_simp; refine hK _ _ ?_)
                clear hK K
                refine wpAny_ready (rs := [15]) (by kernel_rfl) (by simp) ?_
                refine AllReady.cons (o := _) rfl (fun K hK => ?_) AllReady.nil
                · go_simp
                  first | (have hrd := rd_at0 RX.out B80; refine (verify_any own N xi xv Ax xm cx xp w80 (by omega) hrd).mono ?_)
                  rintro e w86 ⟨rfl, hb86⟩
                  have B86 : Below X.heap.size X w86 := by first | exact b_call B80 hb86
                  clear hb86
                  refine hK _ _ ?_
                  clear hK K
                  refine wpAny_ready (rs := [19]) (by kernel_rfl) (by simp) ?_
                  refine AllReady.cons (o := _) rfl (fun K hK => ?_) AllReady.nil
                  · go_simp
                    first | (have hrd := rd_at0 RX.out B86; refine (rverify_any own N xi xv Ax xm cx xp w86 (by omega) hrd).mono ?_)
                    rintro e w90 ⟨rfl, hb90⟩
                    have B90 : Below X.heap.size X w90 := by first | exact b_call B86 hb90
                    clear hb90
                    refine hK _ _ ?_
                    clear hK K
                    refine take_at (i := 20) (some 91) (v := ?vg211) rfl rfl (by kernel_rfl) (by kernel_rfl) (by kernel_rfl) (fun _ _ _ h => h) (Or.inl ⟨by rfl, ?hg211⟩) ?rg211
                    case hg211 => (intro w0; go_simp; try with_reducible rfl)
                    simp only [Act.put, List.setIfInBounds_toArray, List.set_cons_zero, List.set_cons_succ]
                    refine take_at (i := 21) (some 92) (v := ?vg212) rfl rfl (by kernel_rfl) (by kernel_rfl) (by kernel_rfl) (fun _ _ _ h => h) (Or.inl ⟨by rfl, ?hg212⟩) ?rg212
                    case hg212 => (intro w0; go_simp; try with_reducible rfl)
                    simp only [Act.put, List.setIfInBounds_toArray, List.set_cons_zero, List.set_cons_succ]
                    refine take_at (i := 22) (some 93) (v := ?vg213) rfl rfl (by kernel_rfl) (by kernel_rfl) (by kernel_rfl) (fun _ _ _ h => h) (Or.inl ⟨by rfl, ?hg213⟩) ?rg213
                    case hg213 => (intro w0; go_simp; try with_reducible rfl)
                    simp only [Act.put, List.setIfInBounds_toArray, List.set_cons_zero, List.set_cons_succ]
                    refine wpAny_ready (rs := [23]) (by kernel_rfl) (by simp) ?_
                    refine AllReady.cons (o := _) rfl (fun K hK => ?_) AllReady.nil
                    go_simp
                    refine (lives_any w90).mono ?_
                    rintro e w94 ⟨rfl, hb94⟩
                    have B94 : Below X.heap.size X w94 := b_call B90 hb94
                    clear hb94
                    refine hK _ _ ?_
                    clear hK K
                    refine take_at (i := 24) (some 95) (v := ?vg215) rfl rfl (by kernel_rfl) (by kernel_rfl) (by kernel_rfl) (fun _ _ _ h => h) (Or.inl ⟨by rfl, ?hg215⟩) ?rg215
                    case hg215 => (intro w0; go_simp; try with_reducible rfl)
                    simp only [Act.put, List.setIfInBounds_toArray, List.set_cons_zero, List.set_cons_succ]
                    refine wpAny_ready (rs := [25]) (by kernel_rfl) (by simp) ?_
                    refine AllReady.cons (o := _) rfl (fun K hK => ?_) AllReady.nil
                    go_simp
                    refine hK _ _ ?_
                    clear hK K
                    refine wpAny_done (by kernel_rfl) ?_ _
                    go_wp2
                    go_ret
                    exact ⟨rfl, b_call BX.out B94⟩
end Go.Proofs.Ytgelhcgaacnjcaa
