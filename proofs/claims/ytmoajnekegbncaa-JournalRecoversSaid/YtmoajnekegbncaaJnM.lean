/-
  WHAT IS PROVED HERE: the walk of the law JournalCorrupt: it returns true at every input and leaves old memory as it was. Conditions: the argument's length is a machine's.
-/
import Derived.Test.YtmoajnekegbncaaJnL
namespace Go.Proofs.Ytmoajnekegbncaa
set_option linter.unusedVariables false
open Go.ChangeShapes Go.WideShapes Go.ChangeAt Go.RowKit

theorem Rd.dropV {w : World} {B n : Nat} {A : Option Addr} {xs : List Value} (h : Rd w B 1 A n xs) {i : Nat} (hi : i ≤ n) : Rd w B 1 (A.map (·.add i)) (n - i) (xs.drop i) := by
  have hl : xs.length = n := by have := h.1; simpa using this
  refine ⟨by simp; omega, fun hne => ?_⟩
  have hne' : xs ≠ [] := by intro e; subst e; simp at hne
  obtain ⟨b, o, e, hb, hc⟩ := h.2 hne'
  subst e
  refine ⟨b, o + i, by simp [Addr.add], hb, fun q u hq => ?_⟩
  rw [List.getElem?_drop] at hq
  rw [Nat.add_assoc]
  exact hc _ _ hq
theorem Rows.drop {w : World} {lo : Nat} {vs : List Value} {recs : List (List Int)} (h : Rows w lo vs recs) (k : Nat) : Rows w lo (vs.drop k) (recs.drop k) :=
  ⟨by rw [List.length_drop, List.length_drop, h.1], fun i v x hv hx => by
    rw [List.getElem?_drop] at hv hx
    exact h.2 _ v x hv hx⟩
theorem opens_corruptX {xs : List (List Int)} (h : Recs 4000 xs) {k : Nat} (hk : k + 1 < xs.length) {x : List Int} (hx : xs[k] = x) {n : Nat} (h1 : varL x.length ≤ n) (h2 : n < frameL x) {v u : Int} (hv : 0 ≤ v ∧ v ≤ 255) (hu : (frameI x)[n]? = some u) (hne : v ≠ u) :
    Opens (framesI (xs.take k) ++ ((frameI x).set n v ++ framesI (xs.drop (k + 1)))) (xs.take k ++ []) 26 := by
  subst hx
  refine opens_corrupt h hk h1 h2 hv fun e => hne ?_
  rw [e]
  have hl : n < (frameI xs[k]).length := by rw [frameI_len]; exact h2
  rw [List.getElem?_eq_getElem hl] at hu
  injection hu
theorem own_ge {w : World} {base : Nat} {e : TypeId} {sz n : Nat} {v : Value} {xs : List Value} (h : w.ownsRow base e sz v n xs) {k : Nat} (hk : v.ownBlock = some k) : base ≤ k := by
  rcases h.2 with ⟨rfl, _⟩ | ⟨g, cap, cur, rfl, hg, _⟩
  · simp [Value.ownBlock] at hk
  · obtain rfl : g = k := by simpa [Value.ownBlock] using hk
    exact hg
theorem map_set_u8 (L : List Int) (n : Nat) (u : Int) : (L.map (Value.int .u8)).set n (.int .u8 u) = (L.set n u).map (Value.int .u8) := by
  rw [List.map_set]
set_option maxRecDepth 100000 in
set_option maxHeartbeats 4000000 in
theorem jcorrupt_walk (A0 : Option Addr) (n0 c0 : Nat) (l0 : List Int) (which at' by' : Int) (w : World) (rd0 : Rd w w.heap.size 1 A0 n0 (l0.map (Value.int .i64))) (hI : ∀ x ∈ l0, -9223372036854775808 ≤ x ∧ x ≤ 9223372036854775807) (hn0 : n0 ≤ 9223372036854775807)
    (hw : -9223372036854775808 ≤ which ∧ which ≤ 9223372036854775807) (ht : -9223372036854775808 ≤ at' ∧ at' ≤ 9223372036854775807) (hy : 0 ≤ by' ∧ by' ≤ 255) :
    Calls Try.prog 5 #[.slice A0 n0 c0, .int .i64 which, .int .i64 at', .int .u8 by'] w fun e w' => e = .returned (.bool true) ∧ Below w.heap.size w w' := by
  have R0 := Lib.hid rd0
  have HI := Lib.hid hI
  obtain ⟨hw1, hw2⟩ := hw
  obtain ⟨ht1, ht2⟩ := ht
  obtain ⟨hy1, hy2⟩ := hy
  clear rd0 hI
  go_enter Try.func5, Try.ntmps5
  go_wp2_with fail
  refine (refrecords_any A0 n0 c0 l0 _ R0.out HI.out hn0).mono ?_
  rintro e w1 ⟨recs, hrl, hrs, A1, c1, vs, rfl, hc1, hm1, own1, rows1, hb1⟩
  obtain ⟨m, hm⟩ : ∃ m, recs.length = m := ⟨_, rfl⟩
  rw [hm] at own1 hc1 hrl ⊢
  have HM := Lib.hid hm
  have HRS := Lib.hid (hrs.mono (show 140 ≤ 4000 by omega))
  have HRS1 := Lib.hid hrs
  have RV1 := Lib.hid (rd_own own1)
  have RW1 := Lib.hid rows1
  have B1 := Lib.hid hb1
  have hvl := Lib.hid (show vs.length = m from by have := rows1.1; omega)
  unfold maxLen at hm1
  clear hm hrs own1 rows1 hb1
  by_cases hm2 : m < 2
  · go_wp2_with fail
    refine (lives_any _).mono ?_
    rintro e w2 ⟨rfl, hb2⟩
    go_wp2
    go_ret
    exact ⟨rfl, b_call B1.out hb2⟩
  · have hm3 : 2 ≤ m := by omega
    clear hm2
    have ha := around_bd which ((m : Int) - 1) (by omega)
    go_wp2_with fail
    refine (around_any which ((m : Int) - 1) _ hw1 hw2 (by omega) (by omega)).mono ?_
    rintro e w_ ⟨rfl, rfl⟩
    obtain ⟨k, hk⟩ : ∃ k : Nat, around which ((m : Int) - 1) = (k : Int) := ⟨(around which ((m : Int) - 1)).toNat, by omega⟩
    rw [hk] at ha ⊢
    have hkm : k + 1 < m := by omega
    clear ha hk
    have hsl := fun (W : World) => run_slice_to slRows A1 m c1 .i64 (k : Int) (by omega) (by omega) W
    simp only [Int.toNat_natCast] at hsl
    have RT := Lib.hid (RV1.out.take (show k ≤ m by omega))
    rw [Nat.mul_one] at RT
    go_wp2_with fail
    clear hsl
    refine (refframes_any A1 k c1 (vs.take k) _ (recs.take k) _ RT.out (RW1.out.take k) (HRS.out.take k) (by omega)).mono ?_
    obtain ⟨N1, hN1⟩ : ∃ N, (framesI (recs.take k)).length = N := ⟨_, rfl⟩
    have HN1 := Lib.hid hN1
    have hN1b : N1 ≤ 1500 := by
      rw [← hN1]
      exact recs_len (by rw [List.length_take, HM.out]; omega) (HRS1.out.take k)
    rw [hN1]
    clear hN1 RT
    rintro e w2 ⟨A3, c3, rfl, h1, h2, own3, hb2⟩
    have O2 := Lib.hid own3
    have B2 := Lib.hid hb2
    clear own3 hb2
    have hkr : k < recs.length := by rw [HM.out]; omega
    have hkv : k < vs.length := by rw [hvl.out]; omega
    obtain ⟨b, o, eA, hb, hcell⟩ := (RV1.out.below B2.out (Nat.le_refl _)).open1 (show k < m by omega)
    obtain ⟨Ax, cx, hv, gx1, gx2, rdx, hlo⟩ := (RW1.out.2 k vs[k] recs[k] (List.getElem?_eq_getElem hkv) (List.getElem?_eq_getElem hkr)).rd
    rw [hv] at hcell
    have hxm := HRS.out recs[k] (List.getElem_mem hkr)
    have hxm1 := (HRS1.out recs[k] (List.getElem_mem hkr)).2
    obtain ⟨x, hx⟩ : ∃ x, recs[k] = x := ⟨_, rfl⟩
    have RX := Lib.hid (rdx.below B2.out (Nat.le_refl _))
    rw [hx] at hcell hxm hxm1 RX gx1
    have HOC := Lib.hid (fun n h1 h2 v u hv hu hne => opens_corruptX HRS.out (show k + 1 < recs.length from by rw [HM.out]; exact hkm) hx (n := n) h1 h2 (v := v) (u := u) hv hu hne)
    obtain ⟨hxb, hxl⟩ := hxm
    have HXB := Lib.hid hxb
    have hfl := frameL_bd x
    have HFD := Lib.hid (show frameL x = varL x.length + 8 + x.length from rfl)
    obtain ⟨ln, hln⟩ : ∃ ln, x.length = ln := ⟨_, rfl⟩
    rw [hln] at hcell RX hxl hxm1 gx1 hfl HFD
    obtain ⟨v, hvv⟩ : ∃ v, varL ln = v := ⟨_, rfl⟩
    obtain ⟨fl, hfe⟩ : ∃ fl, frameL x = fl := ⟨_, rfl⟩
    have HFE := Lib.hid hfe
    have HVV := Lib.hid hvv
    have HLN := Lib.hid hln
    have hfd : fl ≤ v + 8 + ln ∧ v + 8 + ln ≤ fl := by
      have h := HFD.out
      rw [hfe, hvv] at h
      omega
    obtain ⟨hfd1, hfd2⟩ := hfd
    rw [hfe] at hfl
    clear hv rdx hlo hkr hkv hxb hln hfe hvv HFD hx
    subst eA
    go_wp2_with fail
    refine (frame_any Ax ln cx x HXB.out _ (RX.out.more B2.out.size) (by omega)).mono ?_
    rw [HFE.out]
    rintro e w3 ⟨A4, c4, rfl, k1, k2, own4, hb3⟩
    have B3 := Lib.hid (b_call B2.out hb3)
    have O3 := Lib.hid (own_below O2.out hb3)
    have HOL := Lib.hid (fun j (hj : (Value.slice A3 N1 c3).ownBlock = some j) => own_ltX O2.out hj)
    have z2 := B2.out.size
    have z3 := hb3.size
    have hcell3 := cell_keep hb3 hcell
    obtain ⟨gf, cur, eA4, hgf, Vf, hcur, hfc, hcs⟩ := own_open own4 (by omega)
    have hgf3 := Vf.lt
    have O4 := Lib.hid own4
    have HVF := Lib.hid Vf
    clear own4 hb3 O2 hcell hcur hcs Vf
    subst eA4
    have hsub1 : (fl : Int) - (ln : Int) - 8 = (v : Int) := by omega
    have ha := around_bd at' ((fl : Int) - (v : Int)) (by omega)
    go_wp2_with fail
    refine (around_any at' ((fl : Int) - (v : Int)) _ ht1 ht2 (by omega) (by omega)).mono ?_
    rintro e w_ ⟨rfl, rfl⟩
    obtain ⟨q, hq⟩ : ∃ q : Nat, around at' ((fl : Int) - (v : Int)) = (q : Int) := ⟨(around at' ((fl : Int) - (v : Int))).toNat, by omega⟩
    rw [hq] at ha ⊢
    obtain ⟨n, hn⟩ : ∃ n, v + q = n := ⟨_, rfl⟩
    have hvn : v ≤ n := by omega
    have hnf : n < fl := by omega
    have hadd : (v : Int) + (q : Int) = (n : Int) := by omega
    have hnl : n < (frameI x).length := by rw [frameI_len, HFE.out]; exact hnf
    obtain ⟨bq, oq, hq2, eq1, hbq, hcq⟩ := (rd_own O4.out).openMap hnf
    injection eq1 with eq1
    injection eq1 with eq2 eq3
    subst eq2 eq3
    rw [Nat.zero_add] at hcq
    have hub := frameI_bytes HXB.out (by rw [HLN.out]; omega) _ (List.getElem_mem hnl)
    obtain ⟨u, hu⟩ : ∃ u, (frameI x)[n] = u := ⟨_, rfl⟩
    have HU := Lib.hid (show (frameI x)[n]? = some u from by rw [List.getElem?_eq_getElem hnl, ← hu])
    rw [hu] at hcq hub
    obtain ⟨u1, u2⟩ := hub
    obtain ⟨u', hu'⟩ : ∃ u' : Int, ((u + 1) % 256 + by' % 255) % 256 = u' := ⟨_, rfl⟩
    have hu3 : 0 ≤ u' ∧ u' ≤ 255 := by omega
    have hu4 : u' ≠ u := by omega
    have HU4 := Lib.hid hu4
    have HU3 := Lib.hid hu3
    have hfz := HVF.out.frozen n
    clear hu4 hu3 hq hn ha hu hnl hq2
    go_upto_region 10 with (fail)
    refine name_world ?_
    intro X hX
    have OX := Lib.hid (show X.ownsRow w1.heap.size 5 1 (.slice A3 N1 c3) N1 ((framesI (recs.take k)).map (Value.int .u8)) from by
      rw [hX]
      exact own_same' O3.out fun j hj => Below.heap_setCell _ _ _ _ (by have := HOL.out j hj; show j ≠ gf; omega))
    have RF := Lib.hid (show Rd X X.heap.size 1 (some ⟨gf, 0, none⟩) fl (((frameI x).set n u').map (Value.int .u8)) from by
      rw [hX, ← map_set_u8]
      exact rd_own (own_set O4.out n _))
    have BX := Lib.hid (show Below w1.heap.size w1 X from by
      rw [hX]
      exact B3.out.setCell (p := ⟨gf, n, none⟩) (by show w1.heap.size ≤ gf; omega) _)
    have HX2 := Lib.hid (show w2.heap.size ≤ X.heap.size from by rw [hX, World.size_setCell]; omega)
    clear hX O3 O4 HVF B3 hcell3 hcq hfz RX hb hgf hgf3 hfc z3
    obtain ⟨N3, hN3⟩ : ∃ N, (framesI (recs.drop (k + 1))).length = N := ⟨_, rfl⟩
    have hN3b : N3 ≤ 1500 := by
      rw [← hN3]
      exact recs_len (by rw [List.length_drop, HM.out]; omega) (HRS1.out.drop _)
    have HN3 := Lib.hid hN3
    have HLB := Lib.hid (show Bytes (framesI (recs.take k) ++ (frameI x).set n u' ++ framesI (recs.drop (k + 1))) from by
      intro y hy
      rcases List.mem_append.1 hy with hy | hy
      · rcases List.mem_append.1 hy with hy | hy
        · exact framesI_bytes ((HRS.out.take k).mono (by omega)) y hy
        · rcases List.mem_or_eq_of_mem_set hy with hy | hy
          · exact frameI_bytes HXB.out (by rw [HLN.out]; omega) y hy
          · rw [hy]
            exact HU3.out
      · exact framesI_bytes ((HRS.out.drop _).mono (by omega)) y hy)
    have HOP := Lib.hid (show Opens (framesI (recs.take k) ++ (frameI x).set n u' ++ framesI (recs.drop (k + 1))) (recs.take k ++ []) 26 from by
      rw [List.append_assoc]
      exact HOC.out n (by rw [HLN.out, HVV.out]; exact hvn) (by rw [HFE.out]; exact hnf) u' u HU3.out HU.out HU4.out)
    have hsl2 := fun (W : World) => run_slice_from slRows (some ⟨b, o, none⟩) m c1 .i64 ((k : Int) + 1) (by omega) (by omega) W
    rw [show ((k : Int) + 1).toNat = k + 1 from by omega, if_neg (by omega)] at hsl2
    simp only [Nat.mul_one] at hsl2
    have hdv := fun (W : World) (h : Below w1.heap.size w1 W) => (RV1.out.below h (Nat.le_refl _)).dropV (show k + 1 ≤ m by omega)
    obtain ⟨A9, hA9⟩ : ∃ a, (some (⟨b, o, none⟩ : Addr)).map (·.add (k + 1)) = a := ⟨_, rfl⟩
    rw [hA9] at hsl2 hdv
    obtain ⟨m9, hm9⟩ : ∃ a, m - (k + 1) = a := ⟨_, rfl⟩
    obtain ⟨c9, hc9⟩ : ∃ a, c1 - (k + 1) = a := ⟨_, rfl⟩
    have hm9' : m9 ≤ 100000 := by omega
    rw [hm9] at hsl2 hdv
    rw [hc9] at hsl2
    have HDV := Lib.hid hdv
    have z1 := BX.out.size
    clear hdv hN3 hA9 hm9 hc9 HU HU3 HU4 HOC
    have hwk : IntKind.i64.wrap ((k : Int) + 1) = (k : Int) + 1 := IntWalk.i64_in _ (by omega)
    refine wp_region_any (by kernel_rfl) ?_
    change wpAny _ _ _ _ _ _ _ (World.drew _)
    refine take_at (i := 0) (some 66) (v := ?vg2) rfl rfl (by kernel_rfl) (by kernel_rfl) (by kernel_rfl) (fun _ _ _ h => h) (Or.inl ⟨by rfl, ?hg2⟩) ?rg2
    case hg2 => (intro w0; go_simp; try with_reducible rfl)
    simp only [Act.put, List.setIfInBounds_toArray, List.set_cons_zero, List.set_cons_succ]
    refine take_at (i := 1) (some 67) (v := ?vg3) rfl rfl (by kernel_rfl) (by kernel_rfl) (by kernel_rfl) (fun _ _ _ h => h) (Or.inl ⟨by rfl, ?hg3⟩) ?rg3
    case hg3 => (intro w0; go_simp; try with_reducible rfl)
    simp only [Act.put, List.setIfInBounds_toArray, List.set_cons_zero, List.set_cons_succ]
    refine take_at (i := 3) (some 69) (v := ?vg4) rfl rfl (by kernel_rfl) (by kernel_rfl) (by kernel_rfl) (fun _ _ _ h => h) (Or.inl ⟨by rfl, ?hg4⟩) ?rg4
    case hg4 => (intro w0; go_simp; try with_reducible rfl)
    simp only [Act.put, List.setIfInBounds_toArray, List.set_cons_zero, List.set_cons_succ]
    refine take_at (i := 4) (some 70) (v := ?vg5) rfl rfl (by kernel_rfl) (by kernel_rfl) (by kernel_rfl) (fun _ _ _ h => h) (Or.inl ⟨by rfl, ?hg5⟩) ?rg5
    case hg5 => (intro w0; go_simp; try with_reducible rfl)
    simp only [Act.put, List.setIfInBounds_toArray, List.set_cons_zero, List.set_cons_succ]
    refine take_at (i := 5) (some 71) (v := ?vg6) rfl rfl (by kernel_rfl) (by kernel_rfl) (by kernel_rfl) (fun _ _ _ h => h) (Or.inl ⟨by rfl, ?hg6⟩) ?rg6
    case hg6 => (intro w0; go_simp; try with_reducible rfl)
    simp only [Act.put, List.setIfInBounds_toArray, List.set_cons_zero, List.set_cons_succ]
    refine take_at (i := 6) (some 72) (v := ?vg7) rfl rfl (by kernel_rfl) (by kernel_rfl) (by kernel_rfl) (fun _ _ _ h => h) (Or.inl ⟨by rfl, ?hg7⟩) ?rg7
    case hg7 => (intro w0; go_simp; try with_reducible rfl)
    simp only [Act.put, List.setIfInBounds_toArray, List.set_cons_zero, List.set_cons_succ]
    clear hsl2 hwk
    refine wpAny_ready (rs := [2]) (by kernel_rfl) (by simp) ?_
    refine AllReady.cons (o := _) rfl (fun K hK => ?_) AllReady.nil
    refine step_app2 X.drew 68 rfl rfl (.tmp 66) (.tmp 67) slBytes rfl (v := .slice A3 N1 c3) rfl OX.out rfl RF.out (ints_one _ _) (N1 + fl) rfl (by unfold maxLen; omega) (by omega) z1 ?_
    intro A5 c5 w5 g1 g2 g3 g4 g5
    refine hK _ _ ?_
    clear hK K
    have B5 : Below w1.heap.size w1 w5 := below_app (w := X.drew) BX.out.drew OX.out g4 (Nat.le_refl _) z1
    have O5 := Lib.hid g3
    clear g3 g4 g5
    simp only [Act.put, List.setIfInBounds_toArray, List.set_cons_zero, List.set_cons_succ]
    refine wpAny_ready (rs := [7]) (by kernel_rfl) (by simp) ?_
    refine AllReady.cons (o := _) rfl (fun K hK => ?_) AllReady.nil
    go_simp
    refine (refframes_any A9 m9 c9 (vs.drop (k + 1)) _ (recs.drop (k + 1)) w5 ((HDV.out w5 B5).more B5.size) ((RW1.out.below B5).drop _) (HRS.out.drop _) hm9').mono ?_
    rw [HN3.out]
    rintro e w6 ⟨A6, c6, rfl, f1, f2, own6, hb6⟩
    have B6 : Below w1.heap.size w1 w6 := b_call B5 hb6
    have O6 := Lib.hid (own_below O5.out hb6)
    have R6 := Lib.hid (rd_own own6)
    have z6 := B6.size
    clear own6 hb6 O5
    refine hK _ _ ?_
    clear hK K
    refine wpAny_ready (rs := [8]) (by kernel_rfl) (by simp) ?_
    refine AllReady.cons (o := _) rfl (fun K hK => ?_) AllReady.nil
    refine step_app2 w6 74 rfl rfl (.tmp 68) (.tmp 73) slBytes rfl (v := .slice A5 (N1 + fl) c5) rfl O6.out rfl R6.out (ints_one _ _) (N1 + fl + N3) rfl (by unfold maxLen; omega) (by omega) z6 ?_
    intro A7 c7 w7 g1 g2 g3 g4 g5
    refine hK _ _ ?_
    clear hK K
    have B7 : Below w1.heap.size w1 w7 := below_app B6 O6.out g4 (Nat.le_refl _) z6
    have R7 : Rd w7 w7.heap.size 1 A7 (N1 + fl + N3) ((framesI (recs.take k) ++ (frameI x).set n u' ++ framesI (recs.drop (k + 1))).map (Value.int .u8)) := by rw [List.map_append, List.map_append]; exact rd_own g3
    have R7' := Lib.hid R7
    clear g3 g4 g5 R7
    simp only [Act.put, List.setIfInBounds_toArray, List.set_cons_zero, List.set_cons_succ]
    refine wpAny_ready (rs := [9]) (by kernel_rfl) (by simp) ?_
    refine AllReady.cons (o := _) rfl (fun K hK => ?_) AllReady.nil
    go_simp
    refine hK _ _ ?_
    clear hK K
    refine wpAny_done (by kernel_rfl) ?_ _
    go_wp2_with fail
    refine (open_any A7 (N1 + fl + N3) c7 _ HLB.out _ R7'.out g1 g2 (by omega)).mono ?_
    rintro e w8 hO
    obtain ⟨rfl, hb8⟩ := hO.err HOP.out (by decide)
    have B8 : Below w1.heap.size w1 w8 := b_call B7 hb8
    go_wp2_with fail
    refine (lives_any _).mono ?_
    rintro e w9 ⟨rfl, hb9⟩
    go_wp2
    go_ret
    exact ⟨rfl, b_call B1.out (b_call B8 hb9)⟩
end Go.Proofs.Ytmoajnekegbncaa
