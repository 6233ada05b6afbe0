/-
  WHAT IS PROVED HERE: the walk of the law JournalSums: it returns true at every input and leaves old memory as it was. Conditions: the argument's length is a machine's.
-/
import Derived.Test.YtmoajnekegbncaaJnM
namespace Go.Proofs.Ytmoajnekegbncaa
set_option linter.unusedVariables false
open Go.ChangeShapes Go.WideShapes Go.ChangeAt Go.RowKit

/-- a conversion as one step of a region that draws its order -/
theorem step_conv {P : Program} {w : World} {o : Oper} {a : Act} {K : Act → World → Prop} {Q : Exit → Act → World → Prop} {C E : Prop} [Decidable C] (dst : Tmp) (hdst : o.dst = some dst) (hC : C) (x : Operand) {src dt : TypeId} (ho : o.op = .convert src dt x) {v u : Value} (hx : a.eval x = v) (hrun : (convert src dt v).run P w = .ok u w)
    (h : K (a.put (some dst) u) w) : if C then Oper.wp P o a w K Q else E := by
  rw [if_pos hC]
  unfold Oper.wp execOp
  simp only [ho, Sem.run_bind, Sem.run_pure, Result.andThen_ok, hx, hrun]
  show K (a.put o.dst u) w
  rw [hdst]
  exact h
/-- a string of bytes, later on -/
def CvAt (w : World) (v : Value) (L : List Int) : Prop := ∀ W, Below w.heap.size w W → (convert 27 9 v).run Try.prog W = .ok (.string (bytesOf L)) W
theorem cvAt {w : World} {n : Nat} {A : Option Addr} {L : List Int} (c : Nat) (rd : Rd w w.heap.size 1 A n (L.map (Value.int .u8))) : CvAt w (.slice A n c) L :=
  conv_later (P := Try.prog) (src := 27) (dst := 9) Try.underlying27 Try.underlying5 Try.underlying9 c rd
theorem rows_one {w : World} {lo : Nat} {A : Option Addr} {n c : Nat} {L : List Int} (h : w.ownsRow lo 5 1 (.slice A n c) n (L.map (Value.int .u8))) (h1 : n ≤ c) (h2 : c ≤ maxLen) : Rows w lo [.slice A n c] [L] := by
  have hl : L.length = n := by have := h.1; simpa using this
  have := (Rows.nil w lo).snoc (v := .slice A n c) (x := L) ⟨A, c, by rw [hl], by rw [hl]; exact h1, h2, by rw [hl]; exact h⟩
  simpa using this
theorem leI_drop {l : List Int} {k : Nat} (h : k < l.length) : leI (l.drop k) = 256 * leI (l.drop (k + 1)) + l[k] := by
  rw [List.drop_eq_getElem_cons h, leI_cons]
set_option maxRecDepth 100000 in
set_option maxHeartbeats 4000000 in
theorem jsums_walk (A0 : Option Addr) (n0 c0 : Nat) (l0 : List Int) (w : World) (rd0 : Rd w w.heap.size 1 A0 n0 (l0.map (Value.int .u8))) (hB0 : ∀ x ∈ l0, 0 ≤ x ∧ x ≤ 255) (nc0 : n0 ≤ c0) (cm0 : c0 ≤ maxLen) :
    Calls Try.prog 6 #[.slice A0 n0 c0] w fun e w' => e = .returned (.bool true) ∧ Below w.heap.size w w' := by
  have hl0 : l0.length = n0 := by have := rd0.1; simpa using this
  have R0 := Lib.hid rd0
  have HN0 := Lib.hid (And.intro nc0 cm0)
  obtain ⟨p, hp⟩ : ∃ p, min n0 30 = p := ⟨_, rfl⟩
  have hp30 : p ≤ 30 := by omega
  have HP := Lib.hid hp
  obtain ⟨L, hL⟩ : ∃ L, l0.take 30 = L := ⟨_, rfl⟩
  have HPL := Lib.hid (show L.length = p from by rw [← hL, List.length_take, hl0, ← hp, Nat.min_comm])
  have HBY := Lib.hid (show Bytes L from by rw [← hL]; exact fun x hx => hB0 x (List.mem_of_mem_take hx))
  have HL := Lib.hid hL
  have HVL := Lib.hid (show varL p = 1 ∧ varI p = [(p : Int)] from by unfold varL varI; rw [if_pos (by omega), if_pos (by omega)]; exact ⟨rfl, rfl⟩)
  clear rd0 nc0 cm0 hB0 hl0 hp hL
  go_enter Try.func6, Try.ntmps6
  go_wp2_with fail
  refine (few_any A0 n0 c0 l0 30 30 _ rfl R0.out HN0.out.1 HN0.out.2 (by omega)).mono ?_
  rw [HP.out, HL.out]
  rintro e w1 ⟨A1, c1, rfl, k1, k2, own1, hb1⟩
  have O1 := Lib.hid own1
  have B1 := Lib.hid hb1
  clear own1 hb1 R0
  have HF := Lib.hid (show framesI [L] = varI p ++ sumB L ++ L from by rw [framesI_one]; unfold frameI; rw [HPL.out, List.append_assoc])
  have HFN := Lib.hid (show (framesI [L]).length = 9 + p from by rw [framesI_one, frameI_len]; unfold frameL; rw [HPL.out, HVL.out.1])
  have HRS := Lib.hid (show Recs 4000 [L] from fun y hy => by
    simp at hy
    rw [hy, HPL.out]
    exact ⟨HBY.out, by omega⟩)
  go_wp2_with fail
  refine (filled_any (some ⟨w1.heap.size, 0, none⟩) 1 1 w.heap.size [.slice A1 p c1] [L] _ (rd_lit w1 _ _ rfl rfl) (rows_one (own_below O1.out (b_alloc (Below.refl _ _) _)) k1 k2) HRS.out (by omega)).mono ?_
  rintro e w2 ⟨g, F, rfl, hlg, hF, hb2⟩
  have LG2 := Lib.hid hlg
  have B2 := Lib.hid (b_call (b_alloc B1.out _) hb2)
  have O2 := Lib.hid (own_below (own_below O1.out (b_alloc (Below.refl _ _) _)) hb2)
  clear hlg hF hb2 B1 O1
  go_wp2_with fail
  refine (lbytes_any F g (framesI [L]) _ _ (9 + p) _ LG2.out HFN.out (by omega)).mono ?_
  rintro e w3 ⟨A3, c3, rfl, h1, h2, own3, hb3⟩
  have B3 := Lib.hid (b_call B2.out hb3)
  have RB := Lib.hid (rd_own own3)
  have RF := Lib.hid (rd_own (own_below O2.out hb3))
  have HBF := Lib.hid (framesI_bytes (HRS.out.mono (by omega)))
  unfold maxLen at h2
  clear own3 hb3 LG2 B2 O2
  obtain ⟨D, hD⟩ : ∃ D, framesI [L] = D := ⟨_, rfl⟩
  rw [hD] at RB HF HFN HBF
  clear hD
  have hq : ((9 + p : Nat) : Int) = 9 + (p : Int) := by omega
  have hqb : ((9 : Int) + (p : Int) != 9 + (p : Int)) = false := by simp
  go_wp2
  go_loopw [6, 7] (fun s6 s7 wr => ∃ k : Nat, k ≤ 8 ∧ s7 = .int .i64 k ∧ s6 = .int .u64 (leI ((sumB L).drop k)) ∧ wr = w3) (fun _ i _ => (intOf i).toNat)
  case atStart => exact ⟨8, by omega, rfl, by rw [List.drop_eq_nil_of_le (by rw [sumB_len]; omega)]; rfl, rfl⟩
  case round =>
    obtain ⟨k, hk, rfl, rfl, rfl⟩ := hrel
    by_cases hlt : 0 < k
    · obtain ⟨j, rfl⟩ : ∃ j, k = j + 1 := ⟨k - 1, by omega⟩
      obtain ⟨b, o, hl, rfl, hb, hcell⟩ := RB.out.openMap (show j + 1 < 9 + p by omega)
      have hjs : j < (sumB L).length := by rw [sumB_len]; omega
      have hDj : D[j + 1] = (sumB L)[j] := by
        have : D[j + 1]? = (sumB L)[j]? := by
          rw [HF.out, HVL.out.2, List.append_assoc]
          show ((p : Int) :: (sumB L ++ L))[j + 1]? = _
          rw [List.getElem?_cons_succ, List.getElem?_append_left hjs]
        rw [List.getElem?_eq_getElem hl, List.getElem?_eq_getElem hjs] at this
        injection this
      have hdr := leI_drop hjs
      have hsm := leI_small ((leB_bytes 8 (sumOf L)).drop (j + 1)) (by rw [List.length_drop, leB_len]; omega)
      have hbb := leB_bytes 8 (sumOf L) _ (List.getElem_mem hjs)
      rw [hDj] at hcell
      change 0 ≤ leI ((sumB L).drop (j + 1)) ∧ leI ((sumB L).drop (j + 1)) ≤ 72057594037927935 at hsm
      obtain ⟨u, hu⟩ : ∃ u, (sumB L)[j] = u := ⟨_, rfl⟩
      change 0 ≤ (sumB L)[j] ∧ (sumB L)[j] ≤ 255 at hbb
      rw [hu] at hcell hdr hbb
      have HDR := Lib.hid hdr
      obtain ⟨hs1, hs2⟩ := hsm
      obtain ⟨hu1, hu2⟩ := hbb
      clear hDj hl hjs hu hdr
      generalize leI ((sumB L).drop (j + 1)) = t at *
      go_wp2
      go_roundw
      case rel => exact ⟨j, by omega, by go_num, by
        rw [HDR.out], by first | rfl | trivial⟩
      case measure => first | (simp [intOf]; done) | (simp [intOf]; omega)
    · obtain rfl : k = 0 := by omega
      have hE : leI ((sumB L).drop 0) = sumOf L := by rw [List.drop_zero, sumB_leI]
      rw [hE]
      obtain ⟨b0, o0, hl0, rfl, hb0, hc0⟩ := RB.out.openMap (show 0 < 9 + p by omega)
      have hD0 : D[0] = (p : Int) := by
        have : D[0]? = some (p : Int) := by rw [HF.out, HVL.out.2]; rfl
        rw [List.getElem?_eq_getElem hl0] at this
        injection this
      rw [hD0, Nat.add_zero] at hc0
      have rd9 := RB.out.piece (i := 9) (j := 9 + p) (c := c3) (by omega) (by omega) h1
      have hD9 : (D.drop 9).take p = L := by
        have e : D = (varI p ++ sumB L) ++ L := HF.out
        have h9 : (varI p ++ sumB L).length = 9 := by rw [List.length_append, varI_len, HVL.out.1, sumB_len]
        rw [e]
        have e2 : ((varI p ++ sumB L) ++ L).drop 9 = L := by
          conv => lhs; rw [← h9, List.drop_left]
        rw [e2, List.take_of_length_le (by rw [HPL.out]; omega)]
      rw [Nat.add_sub_cancel_left, hD9] at rd9
      have hsl := fun (W : World) => run_slice_from slBytes (some ⟨b0, o0, none⟩) (9 + p) c3 .i64 9 (by omega) (by omega) W
      simp only [show (9 : Int).toNat = 9 from rfl, Nat.mul_one, Nat.add_sub_cancel_left] at hsl
      obtain ⟨A9, hA9⟩ : ∃ a, (if c3 = 9 then (some ⟨b0, o0, none⟩ : Option Addr) else (some ⟨b0, o0, none⟩ : Option Addr).map (·.add 9)) = a := ⟨_, rfl⟩
      rw [hA9] at rd9 hsl
      clear hD0 hD9 hl0 hA9 hE hq hqb hb0
      obtain ⟨sL, hsL⟩ : ∃ s, sumOf L = s := ⟨_, rfl⟩
      rw [hsL]
      have HSL := Lib.hid hsL
      clear hsL
      go_upto_region 13 with (fail)
      refine name_world ?_
      intro X hX
      have BX := Lib.hid (show Below w.heap.size w X from by rw [hX]; exact B3.out)
      have RFX := Lib.hid (show Rd X X.heap.size 1 A1 p (L.map (Value.int .u8)) from by rw [hX]; exact RF.out)
      have CVF := Lib.hid (cvAt c1 RFX.out)
      have CV9 := Lib.hid (show CvAt X (.slice A9 p (c3 - 9)) L from by rw [hX]; exact cvAt _ rd9)
      have x0 : X.cell? ⟨b0, o0, none⟩ = some (.int .u8 (p : Int)) := by rw [hX]; exact hc0
      have B0 : Below X.heap.size X X.drew := b_drew (Below.refl _ _)
      have hpos : (0 : Int) < 9 + (p : Int) := by omega
      clear hX hc0 rd9 RB RF B3
      have hpp : ((p : Int) == (p : Int)) = true := by simp
      have hss : (sL == sL) = true := by simp
      have hwp : IntKind.i64.wrap (p : Int) = (p : Int) := IntWalk.i64_in _ (by omega)
      refine wp_region_any (by kernel_rfl) ?_
      change wpAny _ _ _ _ _ _ _ (World.drew _)
      refine take_at (i := 0) (some 35) (v := ?vg2) rfl rfl (by kernel_rfl) (by kernel_rfl) (by kernel_rfl) (fun _ _ _ h => h) (Or.inl ⟨by rfl, ?hg2⟩) ?rg2
      case hg2 => (intro w0; go_simp; try with_reducible rfl)
      simp only [Act.put, List.setIfInBounds_toArray, List.set_cons_zero, List.set_cons_succ]
      refine take_at (i := 1) (some 36) (v := ?vg3) rfl rfl (by kernel_rfl) (by kernel_rfl) (by kernel_rfl) (fun _ _ _ h => h) (Or.inl ⟨by rfl, ?hg3⟩) ?rg3
      case hg3 => (intro w0; go_simp; try with_reducible rfl)
      simp only [Act.put, List.setIfInBounds_toArray, List.set_cons_zero, List.set_cons_succ]
      refine take_at (i := 4) (some 39) (v := ?vg4) rfl rfl (by kernel_rfl) (by kernel_rfl) (by kernel_rfl) (fun _ _ _ h => h) (Or.inl ⟨by rfl, ?hg4⟩) ?rg4
      case hg4 => (intro w0; go_simp; try with_reducible rfl)
      simp only [Act.put, List.setIfInBounds_toArray, List.set_cons_zero, List.set_cons_succ]
      refine take_at (i := 5) (some 40) (v := ?vg5) rfl rfl (by kernel_rfl) (by kernel_rfl) (by kernel_rfl) (fun _ _ _ h => h) (Or.inl ⟨by rfl, ?hg5⟩) ?rg5
      case hg5 => (intro w0; go_simp; try with_reducible rfl)
      simp only [Act.put, List.setIfInBounds_toArray, List.set_cons_zero, List.set_cons_succ]
      refine wpAny_ready (rs := [2]) (by kernel_rfl) (by simp) ?_
      refine AllReady.cons (o := _) rfl (fun K hK => ?_) AllReady.nil
      go_simp
      refine hK _ _ ?_
      clear hK K
      refine take_at (i := 3) (some 38) (v := ?vg7) rfl rfl (by kernel_rfl) (by kernel_rfl) (by kernel_rfl) (fun _ _ _ h => h) (Or.inl ⟨by rfl, ?hg7⟩) ?rg7
      case hg7 => (intro w0; go_simp; try with_reducible rfl)
      simp only [Act.put, List.setIfInBounds_toArray, List.set_cons_zero, List.set_cons_succ]
      clear hwp
      refine take_at (i := 6) (some 41) (v := ?vg9) rfl rfl (by kernel_rfl) (by kernel_rfl) (by kernel_rfl) (fun _ _ _ h => h) (Or.inl ⟨by rfl, ?hg9⟩) ?rg9
      case hg9 => (intro w0; go_simp; try with_reducible rfl)
      simp only [Act.put, List.setIfInBounds_toArray, List.set_cons_zero, List.set_cons_succ]
      refine take_at (i := 7) (some 42) (v := ?vg10) rfl rfl (by kernel_rfl) (by kernel_rfl) (by kernel_rfl) (fun _ _ _ h => h) (Or.inl ⟨by rfl, ?hg10⟩) ?rg10
      case hg10 => (intro w0; go_simp; try with_reducible rfl)
      simp only [Act.put, List.setIfInBounds_toArray, List.set_cons_zero, List.set_cons_succ]
      refine take_at (i := 8) (some 43) (v := ?vg11) rfl rfl (by kernel_rfl) (by kernel_rfl) (by kernel_rfl) (fun _ _ _ h => h) (Or.inl ⟨by rfl, ?hg11⟩) ?rg11
      case hg11 => (intro w0; go_simp; try with_reducible rfl)
      simp only [Act.put, List.setIfInBounds_toArray, List.set_cons_zero, List.set_cons_succ]
      refine take_at (i := 9) (some 44) (v := ?vg12) rfl rfl (by kernel_rfl) (by kernel_rfl) (by kernel_rfl) (fun _ _ _ h => h) (Or.inl ⟨by rfl, ?hg12⟩) ?rg12
      case hg12 => (intro w0; go_simp; try with_reducible rfl)
      simp only [Act.put, List.setIfInBounds_toArray, List.set_cons_zero, List.set_cons_succ]
      refine wpAny_ready (rs := [10]) (by kernel_rfl) (by simp) ?_
      refine AllReady.cons (o := _) rfl (fun K hK => ?_) AllReady.nil
      go_simp
      refine (bytes_any recTxt (by decide) L HBY.out A1 p c1 (by omega) X.drew RFX.out).mono ?_
      rw [sumOf_eq, HSL.out]
      rintro e w10 ⟨rfl, hb10⟩
      have B10 : Below X.heap.size X w10 := b_call B0 hb10
      refine hK _ _ ?_
      clear hK K
      refine take_at (i := 11) (some 46) (v := ?vg14) rfl rfl (by kernel_rfl) (by kernel_rfl) (by kernel_rfl) (fun _ _ _ h => h) (Or.inl ⟨by rfl, ?hg14⟩) ?rg14
      case hg14 => (intro w0; go_simp; try with_reducible rfl)
      simp only [Act.put, List.setIfInBounds_toArray, List.set_cons_zero, List.set_cons_succ]
      refine take_at (i := 12) (some 47) (v := ?vg15) rfl rfl (by kernel_rfl) (by kernel_rfl) (by kernel_rfl) (fun _ _ _ h => h) (Or.inl ⟨by rfl, ?hg15⟩) ?rg15
      case hg15 => (intro w0; go_simp; try with_reducible rfl)
      simp only [Act.put, List.setIfInBounds_toArray, List.set_cons_zero, List.set_cons_succ]
      refine take_at (i := 13) (some 48) (v := ?vg16) rfl rfl (by kernel_rfl) (by kernel_rfl) (by kernel_rfl) (fun _ _ _ h => h) (Or.inl ⟨by rfl, ?hg16⟩) ?rg16
      case hg16 => (intro w0; go_simp; try with_reducible rfl)
      simp only [Act.put, List.setIfInBounds_toArray, List.set_cons_zero, List.set_cons_succ]
      refine take_at (i := 14) (some 49) (v := ?vg17) rfl rfl (by kernel_rfl) (by kernel_rfl) (by kernel_rfl) (fun _ _ _ h => h) (Or.inl ⟨by rfl, ?hg17⟩) ?rg17
      case hg17 => (intro w0; go_simp; try with_reducible rfl)
      simp only [Act.put, List.setIfInBounds_toArray, List.set_cons_zero, List.set_cons_succ]
      refine take_at (i := 15) (some 50) (v := ?vg18) rfl rfl (by kernel_rfl) (by kernel_rfl) (by kernel_rfl) (fun _ _ _ h => h) (Or.inl ⟨by rfl, ?hg18⟩) ?rg18
      case hg18 => (intro w0; go_simp; try with_reducible rfl)
      simp only [Act.put, List.setIfInBounds_toArray, List.set_cons_zero, List.set_cons_succ]
      clear hsl
      refine take_at (i := 17) (some 52) (v := ?vg20) rfl rfl (by kernel_rfl) (by kernel_rfl) (by kernel_rfl) (fun _ _ _ h => h) (Or.inl ⟨by rfl, ?hg20⟩) ?rg20
      case hg20 => (intro w0; go_simp; try with_reducible rfl)
      simp only [Act.put, List.setIfInBounds_toArray, List.set_cons_zero, List.set_cons_succ]
      refine wpAny_ready (rs := [16, 18]) (by kernel_rfl) (by simp) ?_
      refine AllReady.cons (o := _) rfl (fun K hK => ?_) (AllReady.cons (o := _) rfl (fun K hK => ?_) AllReady.nil)
      · refine step_conv 51 rfl (by rfl) (.tmp 50) rfl rfl (CV9.out _ (by first | exact B10 | exact B0)) ?_
        refine hK _ _ ?_
        clear hK K
        refine wpAny_ready (rs := [18]) (by kernel_rfl) (by simp) ?_
        refine AllReady.cons (o := _) rfl (fun K hK => ?_) AllReady.nil
        · refine step_conv 53 rfl (by rfl) (.tmp 52) rfl rfl (CVF.out _ (by first | exact B10 | exact B0)) ?_
          refine hK _ _ ?_
          clear hK K
          refine take_at (i := 19) (some 54) (v := ?vg21) rfl rfl (by kernel_rfl) (by kernel_rfl) (by kernel_rfl) (fun _ _ _ h => h) (Or.inl ⟨by rfl, ?hg21⟩) ?rg21
          case hg21 => (intro w0; go_simp; try with_reducible rfl)
          simp only [Act.put, List.setIfInBounds_toArray, List.set_cons_zero, List.set_cons_succ]
          refine take_at (i := 20) (some 55) (v := ?vg22) rfl rfl (by kernel_rfl) (by kernel_rfl) (by kernel_rfl) (fun _ _ _ h => h) (Or.inl ⟨by rfl, ?hg22⟩) ?rg22
          case hg22 => (intro w0; go_simp; try with_reducible rfl)
          simp only [Act.put, List.setIfInBounds_toArray, List.set_cons_zero, List.set_cons_succ]
          refine take_at (i := 21) (some 56) (v := ?vg23) rfl rfl (by kernel_rfl) (by kernel_rfl) (by kernel_rfl) (fun _ _ _ h => h) (Or.inl ⟨by rfl, ?hg23⟩) ?rg23
          case hg23 => (intro w0; go_simp; try with_reducible rfl)
          simp only [Act.put, List.setIfInBounds_toArray, List.set_cons_zero, List.set_cons_succ]
          refine wpAny_ready (rs := [22]) (by kernel_rfl) (by simp) ?_
          refine AllReady.cons (o := _) rfl (fun K hK => ?_) AllReady.nil
          go_simp
          refine (lives_any w10).mono ?_
          rintro e w22 ⟨rfl, hb22⟩
          have B22 : Below X.heap.size X w22 := b_call B10 hb22
          refine hK _ _ ?_
          clear hK K
          refine take_at (i := 23) (some 58) (v := ?vg25) rfl rfl (by kernel_rfl) (by kernel_rfl) (by kernel_rfl) (fun _ _ _ h => h) (Or.inl ⟨by rfl, ?hg25⟩) ?rg25
          case hg25 => (intro w0; go_simp; try with_reducible rfl)
          simp only [Act.put, List.setIfInBounds_toArray, List.set_cons_zero, List.set_cons_succ]
          refine wpAny_ready (rs := [24]) (by kernel_rfl) (by simp) ?_
          refine AllReady.cons (o := _) rfl (fun K hK => ?_) AllReady.nil
          go_simp
          refine hK _ _ ?_
          clear hK K
          refine wpAny_done (by kernel_rfl) ?_ _
          go_wp2
          go_ret
          exact ⟨rfl, b_call BX.out B22⟩
      · refine step_conv 53 rfl (by rfl) (.tmp 52) rfl rfl (CVF.out _ (by first | exact B10 | exact B0)) ?_
        refine hK _ _ ?_
        clear hK K
        refine wpAny_ready (rs := [16]) (by kernel_rfl) (by simp) ?_
        refine AllReady.cons (o := _) rfl (fun K hK => ?_) AllReady.nil
        · refine step_conv 51 rfl (by rfl) (.tmp 50) rfl rfl (CV9.out _ (by first | exact B10 | exact B0)) ?_
          refine hK _ _ ?_
          clear hK K
          refine take_at (i := 19) (some 54) (v := ?vg29) rfl rfl (by kernel_rfl) (by kernel_rfl) (by kernel_rfl) (fun _ _ _ h => h) (Or.inl ⟨by rfl, ?hg29⟩) ?rg29
          case hg29 => (intro w0; go_simp; try with_reducible rfl)
          simp only [Act.put, List.setIfInBounds_toArray, List.set_cons_zero, List.set_cons_succ]
          refine take_at (i := 20) (some 55) (v := ?vg30) rfl rfl (by kernel_rfl) (by kernel_rfl) (by kernel_rfl) (fun _ _ _ h => h) (Or.inl ⟨by rfl, ?hg30⟩) ?rg30
          case hg30 => (intro w0; go_simp; try with_reducible rfl)
          simp only [Act.put, List.setIfInBounds_toArray, List.set_cons_zero, List.set_cons_succ]
          refine take_at (i := 21) (some 56) (v := ?vg31) rfl rfl (by kernel_rfl) (by kernel_rfl) (by kernel_rfl) (fun _ _ _ h => h) (Or.inl ⟨by rfl, ?hg31⟩) ?rg31
          case hg31 => (intro w0; go_simp; try with_reducible rfl)
          simp only [Act.put, List.setIfInBounds_toArray, List.set_cons_zero, List.set_cons_succ]
          refine wpAny_ready (rs := [22]) (by kernel_rfl) (by simp) ?_
          refine AllReady.cons (o := _) rfl (fun K hK => ?_) AllReady.nil
          go_simp
          refine (lives_any w10).mono ?_
          rintro e w22 ⟨rfl, hb22⟩
          have B22 : Below X.heap.size X w22 := b_call B10 hb22
          refine hK _ _ ?_
          clear hK K
          refine take_at (i := 23) (some 58) (v := ?vg33) rfl rfl (by kernel_rfl) (by kernel_rfl) (by kernel_rfl) (fun _ _ _ h => h) (Or.inl ⟨by rfl, ?hg33⟩) ?rg33
          case hg33 => (intro w0; go_simp; try with_reducible rfl)
          simp only [Act.put, List.setIfInBounds_toArray, List.set_cons_zero, List.set_cons_succ]
          refine wpAny_ready (rs := [24]) (by kernel_rfl) (by simp) ?_
          refine AllReady.cons (o := _) rfl (fun K hK => ?_) AllReady.nil
          go_simp
          refine hK _ _ ?_
          clear hK K
          refine wpAny_done (by kernel_rfl) ?_ _
          go_wp2
          go_ret
          exact ⟨rfl, b_call BX.out B22⟩
end Go.Proofs.Ytmoajnekegbncaa
