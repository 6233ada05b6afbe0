/-
  WHAT IS PROVED HERE: the contracts of the reference's Same and Records. No condition but bounds that every machine's lengths meet.
-/
import Derived.Test.YtmoajnekegbncaaJnH
import Derived.Test.YtmoajnekegbncaaConv
namespace Go.Proofs.Ytmoajnekegbncaa
set_option linter.unusedVariables false
open Go.ChangeShapes Go.WideShapes Go.ChangeAt Go.RowKit

theorem take_eq_succL {l l' : List (List Int)} {k : Nat} (h : l.take k = l'.take k) (h1 : k < l.length) (h2 : k < l'.length) (he : l[k] = l'[k]) : l.take (k + 1) = l'.take (k + 1) := by
  rw [List.take_succ_eq_append_getElem h1, List.take_succ_eq_append_getElem h2, h, he]
theorem ba_len (bs : ByteArray) : bs.data.toList.length = bs.size := by simp
theorem ba_loop (bs : ByteArray) : ∀ (k i : Nat) (r : List UInt8), bs.size - i = k → ByteArray.toList.loop bs i r = r.reverse ++ bs.data.toList.drop i := by
  intro k
  induction k with
  | zero =>
    intro i r h
    rw [ByteArray.toList.loop, if_neg (by omega), List.drop_eq_nil_of_le (by rw [ba_len]; omega), List.append_nil]
  | succ k ih =>
    intro i r h
    have hi : i < bs.size := by omega
    have hl : i < bs.data.toList.length := by rw [ba_len]; exact hi
    rw [ByteArray.toList.loop, if_pos hi, ih _ _ (by omega), List.drop_eq_getElem_cons hl]
    have : bs.get! i = bs.data.toList[i] := by
      show bs.data[i]! = _
      rw [getElem!_pos bs.data i (by exact hi)]
      simp
    rw [this]
    simp
theorem ba_toList (bs : ByteArray) : bs.toList = bs.data.toList := by
  unfold ByteArray.toList
  rw [ba_loop bs _ 0 [] rfl]
  simp
theorem ba_ne {a b : ByteArray} (h : a ≠ b) : (a.toList == b.toList) = false := by
  rw [beq_eq_false_iff_ne, ba_toList, ba_toList]
  intro e
  refine h ?_
  rcases a with ⟨a⟩
  rcases b with ⟨b⟩
  simp only at e
  rw [Array.toList_inj.1 e]
theorem ba_eq {a b : ByteArray} (h : a = b) : (a.toList == b.toList) = true := by
  rw [h]
  exact beq_self_eq_true _
set_option maxRecDepth 100000 in
set_option maxHeartbeats 2000000 in
theorem same_any (A A' : Option Addr) (n c n' c' lo lo' : Nat) (vs vs' : List Value) (ra rb : List (List Int)) (q : Bool) (hq : decide (ra = rb) = q) (w : World) (rd : Rd w w.heap.size 1 A n vs) (hr : Rows w lo vs ra) (rd' : Rd w w.heap.size 1 A' n' vs') (hr' : Rows w lo' vs' rb) (m : Nat) (hs : Recs m ra) (hs' : Recs m rb) (hn : n ≤ 1000000000) (hn' : n' ≤ 1000000000) :
    Calls Try.prog 15 #[.slice A n c, .slice A' n' c'] w fun e w' => e = .returned (.bool q) ∧ Below w.heap.size w w' := by
  have hl : vs.length = n := by have := rd.1; simpa using this
  have hl' : vs'.length = n' := by have := rd'.1; simpa using this
  have hl2 : ra.length = n := by rw [← hr.1]; exact hl
  have hl2' : rb.length = n' := by rw [← hr'.1]; exact hl'
  by_cases hnn : n = n'
  · subst hnn
    have HQ := Lib.hid hq
    have RD := Lib.hid rd
    have RD' := Lib.hid rd'
    have HR := Lib.hid hr
    have HR' := Lib.hid hr'
    have HS := Lib.hid hs
    have HS' := Lib.hid hs'
    have HL := Lib.hid hl2
    have HL' := Lib.hid hl2'
    clear rd rd' hr hr' hs hs' hl hl' hl2 hl2' hq
    go_enter Try.func15, Try.ntmps15
    go_wp2
    go_loopw [5] (fun i wr => ∃ k : Nat, k ≤ n ∧ i = .int .i64 k ∧ Hid (ra.take k = rb.take k) ∧ Hid (Below w.heap.size w wr)) (fun i _ => n - (intOf i).toNat)
    case atStart => exact ⟨0, by omega, rfl, rfl, Lib.hid (Below.refl _ _)⟩
    case round =>
      obtain ⟨k, hk, rfl, hT, HB⟩ := hrel
      by_cases hlt : k < n
      · obtain ⟨b, o, rfl, hb, hcell⟩ := (RD.out.below HB.out (Nat.le_refl _)).open1 hlt
        obtain ⟨b', o', rfl, hb', hcell'⟩ := (RD'.out.below HB.out (Nat.le_refl _)).open1 hlt
        have hka : k < ra.length := by rw [HL.out]; exact hlt
        have hkb : k < rb.length := by rw [HL'.out]; exact hlt
        have hkv : k < vs.length := by rw [HR.out.1]; exact hka
        have hkv' : k < vs'.length := by rw [HR'.out.1]; exact hkb
        obtain ⟨A1, c1, hv, g1, g2, rd1, hlo⟩ := (HR.out.2 k vs[k] ra[k] (List.getElem?_eq_getElem hkv) (List.getElem?_eq_getElem hka)).rd
        obtain ⟨A2, c2, hv2, g3, g4, rd2, hlo2⟩ := (HR'.out.2 k vs'[k] rb[k] (List.getElem?_eq_getElem hkv') (List.getElem?_eq_getElem hkb)).rd
        rw [hv] at hcell
        rw [hv2] at hcell'
        have cv1 := run_conv (P := Try.prog) (src := 27) (dst := 9) Try.underlying27 Try.underlying5 Try.underlying9 c1 (w := wr.drew) (Rd.drew (rd1.below HB.out (Nat.le_refl _)))
        have cv2 := run_conv (P := Try.prog) (src := 27) (dst := 9) Try.underlying27 Try.underlying5 Try.underlying9 c2 (w := wr.drew) (Rd.drew (rd2.below HB.out (Nat.le_refl _)))
        have hxa := HS.out _ (List.getElem_mem hka)
        have hxb := HS'.out _ (List.getElem_mem hkb)
        clear hv hv2 rd1 rd2 hlo hlo2
        by_cases he : ra[k] = rb[k]
        · have E1 := Lib.hid (take_eq_succL hT.out hka hkb he)
          have hne : ((bytesOf ra[k]).toList == (bytesOf rb[k]).toList) = true := ba_eq (by rw [he])
          clear he hxa hxb
          generalize ra[k] = x at *
          generalize rb[k] = y at *
          generalize x.length = xl at *
          generalize y.length = yl at *
          generalize bytesOf x = sx at *
          generalize bytesOf y = sy at *
          go_wp2
          refine wp_region_any (by kernel_rfl) ?_
          change wpAny _ _ _ _ _ _ _ (World.drew _)
          refine take_at (i := 0) (some 17) (v := ?vg2) rfl rfl (by kernel_rfl) (by kernel_rfl) (by kernel_rfl) (fun _ _ _ h => h) (Or.inl ⟨by rfl, ?hg2⟩) ?rg2
          case hg2 => (intro w0; go_simp; try with_reducible rfl)
          simp only [Act.put, List.setIfInBounds_toArray, List.set_cons_zero, List.set_cons_succ]
          refine take_at (i := 1) (some 18) (v := ?vg3) rfl rfl (by kernel_rfl) (by kernel_rfl) (by kernel_rfl) (fun _ _ _ h => h) (Or.inl ⟨by rfl, ?hg3⟩) ?rg3
          case hg3 => (intro w0; go_simp; try with_reducible rfl)
          simp only [Act.put, List.setIfInBounds_toArray, List.set_cons_zero, List.set_cons_succ]
          refine take_at (i := 2) (some 19) (v := ?vg4) rfl rfl (by kernel_rfl) (by kernel_rfl) (by kernel_rfl) (fun _ _ _ h => h) (Or.inl ⟨by rfl, ?hg4⟩) ?rg4
          case hg4 => (intro w0; go_simp; try with_reducible rfl)
          simp only [Act.put, List.setIfInBounds_toArray, List.set_cons_zero, List.set_cons_succ]
          refine take_at (i := 5) (some 22) (v := ?vg5) rfl rfl (by kernel_rfl) (by kernel_rfl) (by kernel_rfl) (fun _ _ _ h => h) (Or.inl ⟨by rfl, ?hg5⟩) ?rg5
          case hg5 => (intro w0; go_simp; try with_reducible rfl)
          simp only [Act.put, List.setIfInBounds_toArray, List.set_cons_zero, List.set_cons_succ]
          refine take_at (i := 6) (some 23) (v := ?vg6) rfl rfl (by kernel_rfl) (by kernel_rfl) (by kernel_rfl) (fun _ _ _ h => h) (Or.inl ⟨by rfl, ?hg6⟩) ?rg6
          case hg6 => (intro w0; go_simp; try with_reducible rfl)
          simp only [Act.put, List.setIfInBounds_toArray, List.set_cons_zero, List.set_cons_succ]
          refine take_at (i := 7) (some 24) (v := ?vg7) rfl rfl (by kernel_rfl) (by kernel_rfl) (by kernel_rfl) (fun _ _ _ h => h) (Or.inl ⟨by rfl, ?hg7⟩) ?rg7
          case hg7 => (intro w0; go_simp; try with_reducible rfl)
          simp only [Act.put, List.setIfInBounds_toArray, List.set_cons_zero, List.set_cons_succ]
          refine wpAny_ready (rs := [3, 8]) (by kernel_rfl) (by simp) ?_
          refine AllReady.cons (o := _) rfl (fun K hK => ?_) (AllReady.cons (o := _) rfl (fun K hK => ?_) AllReady.nil)
          · go_simp
            refine hK _ _ ?_
            clear hK K
            refine wpAny_ready (rs := [4, 8]) (by kernel_rfl) (by simp) ?_
            refine AllReady.cons (o := _) rfl (fun K hK => ?_) (AllReady.cons (o := _) rfl (fun K hK => ?_) AllReady.nil)
            · go_simp
              refine hK _ _ ?_
              clear hK K
              refine wpAny_ready (rs := [8]) (by kernel_rfl) (by simp) ?_
              refine AllReady.cons (o := _) rfl (fun K hK => ?_) AllReady.nil
              · go_simp
                refine hK _ _ ?_
                clear hK K
                refine wpAny_ready (rs := [9]) (by kernel_rfl) (by simp) ?_
                refine AllReady.cons (o := _) rfl (fun K hK => ?_) AllReady.nil
                · go_simp
                  refine hK _ _ ?_
                  clear hK K
                  refine wpAny_ready (rs := [10]) (by kernel_rfl) (by simp) ?_
                  refine AllReady.cons (o := _) rfl (fun K hK => ?_) AllReady.nil
                  go_simp
                  refine hK _ _ ?_
                  clear hK K
                  refine wpAny_done (by kernel_rfl) ?_ _
                  go_wp2
                  go_roundw
                  case rel => exact ⟨k + 1, by omega, by go_num, E1, Lib.hid (b_drew HB.out)⟩
                  case measure => simp [intOf]; omega
            · go_simp
              refine hK _ _ ?_
              clear hK K
              refine wpAny_ready (rs := [4, 9]) (by kernel_rfl) (by simp) ?_
              refine AllReady.cons (o := _) rfl (fun K hK => ?_) (AllReady.cons (o := _) rfl (fun K hK => ?_) AllReady.nil)
              · go_simp
                refine hK _ _ ?_
                clear hK K
                refine wpAny_ready (rs := [9]) (by kernel_rfl) (by simp) ?_
                refine AllReady.cons (o := _) rfl (fun K hK => ?_) AllReady.nil
                · go_simp
                  refine hK _ _ ?_
                  clear hK K
                  refine wpAny_ready (rs := [10]) (by kernel_rfl) (by simp) ?_
                  refine AllReady.cons (o := _) rfl (fun K hK => ?_) AllReady.nil
                  go_simp
                  refine hK _ _ ?_
                  clear hK K
                  refine wpAny_done (by kernel_rfl) ?_ _
                  go_wp2
                  go_roundw
                  case rel => exact ⟨k + 1, by omega, by go_num, E1, Lib.hid (b_drew HB.out)⟩
                  case measure => simp [intOf]; omega
              · go_simp
                refine hK _ _ ?_
                clear hK K
                refine wpAny_ready (rs := [4]) (by kernel_rfl) (by simp) ?_
                refine AllReady.cons (o := _) rfl (fun K hK => ?_) AllReady.nil
                · go_simp
                  refine hK _ _ ?_
                  clear hK K
                  refine wpAny_ready (rs := [10]) (by kernel_rfl) (by simp) ?_
                  refine AllReady.cons (o := _) rfl (fun K hK => ?_) AllReady.nil
                  go_simp
                  refine hK _ _ ?_
                  clear hK K
                  refine wpAny_done (by kernel_rfl) ?_ _
                  go_wp2
                  go_roundw
                  case rel => exact ⟨k + 1, by omega, by go_num, E1, Lib.hid (b_drew HB.out)⟩
                  case measure => simp [intOf]; omega
          · go_simp
            refine hK _ _ ?_
            clear hK K
            refine wpAny_ready (rs := [3, 9]) (by kernel_rfl) (by simp) ?_
            refine AllReady.cons (o := _) rfl (fun K hK => ?_) (AllReady.cons (o := _) rfl (fun K hK => ?_) AllReady.nil)
            · go_simp
              refine hK _ _ ?_
              clear hK K
              refine wpAny_ready (rs := [4, 9]) (by kernel_rfl) (by simp) ?_
              refine AllReady.cons (o := _) rfl (fun K hK => ?_) (AllReady.cons (o := _) rfl (fun K hK => ?_) AllReady.nil)
              · go_simp
                refine hK _ _ ?_
                clear hK K
                refine wpAny_ready (rs := [9]) (by kernel_rfl) (by simp) ?_
                refine AllReady.cons (o := _) rfl (fun K hK => ?_) AllReady.nil
                · go_simp
                  refine hK _ _ ?_
                  clear hK K
                  refine wpAny_ready (rs := [10]) (by kernel_rfl) (by simp) ?_
                  refine AllReady.cons (o := _) rfl (fun K hK => ?_) AllReady.nil
                  go_simp
                  refine hK _ _ ?_
                  clear hK K
                  refine wpAny_done (by kernel_rfl) ?_ _
                  go_wp2
                  go_roundw
                  case rel => exact ⟨k + 1, by omega, by go_num, E1, Lib.hid (b_drew HB.out)⟩
                  case measure => simp [intOf]; omega
              · go_simp
                refine hK _ _ ?_
                clear hK K
                refine wpAny_ready (rs := [4]) (by kernel_rfl) (by simp) ?_
                refine AllReady.cons (o := _) rfl (fun K hK => ?_) AllReady.nil
                · go_simp
                  refine hK _ _ ?_
                  clear hK K
                  refine wpAny_ready (rs := [10]) (by kernel_rfl) (by simp) ?_
                  refine AllReady.cons (o := _) rfl (fun K hK => ?_) AllReady.nil
                  go_simp
                  refine hK _ _ ?_
                  clear hK K
                  refine wpAny_done (by kernel_rfl) ?_ _
                  go_wp2
                  go_roundw
                  case rel => exact ⟨k + 1, by omega, by go_num, E1, Lib.hid (b_drew HB.out)⟩
                  case measure => simp [intOf]; omega
            · go_simp
              refine hK _ _ ?_
              clear hK K
              refine wpAny_ready (rs := [3]) (by kernel_rfl) (by simp) ?_
              refine AllReady.cons (o := _) rfl (fun K hK => ?_) AllReady.nil
              · go_simp
                refine hK _ _ ?_
                clear hK K
                refine wpAny_ready (rs := [4]) (by kernel_rfl) (by simp) ?_
                refine AllReady.cons (o := _) rfl (fun K hK => ?_) AllReady.nil
                · go_simp
                  refine hK _ _ ?_
                  clear hK K
                  refine wpAny_ready (rs := [10]) (by kernel_rfl) (by simp) ?_
                  refine AllReady.cons (o := _) rfl (fun K hK => ?_) AllReady.nil
                  go_simp
                  refine hK _ _ ?_
                  clear hK K
                  refine wpAny_done (by kernel_rfl) ?_ _
                  go_wp2
                  go_roundw
                  case rel => exact ⟨k + 1, by omega, by go_num, E1, Lib.hid (b_drew HB.out)⟩
                  case measure => simp [intOf]; omega
        · have E1 := Lib.hid (show q = false from by
            rw [← HQ.out, decide_eq_false_iff_not]
            intro e
            subst e
            exact he rfl)
          have hne : ((bytesOf ra[k]).toList == (bytesOf rb[k]).toList) = false := ba_ne fun e => he (bytesOf_inj hxa.1 hxb.1 e)
          clear he hxa hxb
          generalize ra[k] = x at *
          generalize rb[k] = y at *
          generalize x.length = xl at *
          generalize y.length = yl at *
          generalize bytesOf x = sx at *
          generalize bytesOf y = sy at *
          go_wp2
          refine wp_region_any (by kernel_rfl) ?_
          change wpAny _ _ _ _ _ _ _ (World.drew _)
          refine take_at (i := 0) (some 17) (v := ?vg27) rfl rfl (by kernel_rfl) (by kernel_rfl) (by kernel_rfl) (fun _ _ _ h => h) (Or.inl ⟨by rfl, ?hg27⟩) ?rg27
          case hg27 => (intro w0; go_simp; try with_reducible rfl)
          simp only [Act.put, List.setIfInBounds_toArray, List.set_cons_zero, List.set_cons_succ]
          refine take_at (i := 1) (some 18) (v := ?vg28) rfl rfl (by kernel_rfl) (by kernel_rfl) (by kernel_rfl) (fun _ _ _ h => h) (Or.inl ⟨by rfl, ?hg28⟩) ?rg28
          case hg28 => (intro w0; go_simp; try with_reducible rfl)
          simp only [Act.put, List.setIfInBounds_toArray, List.set_cons_zero, List.set_cons_succ]
          refine take_at (i := 2) (some 19) (v := ?vg29) rfl rfl (by kernel_rfl) (by kernel_rfl) (by kernel_rfl) (fun _ _ _ h => h) (Or.inl ⟨by rfl, ?hg29⟩) ?rg29
          case hg29 => (intro w0; go_simp; try with_reducible rfl)
          simp only [Act.put, List.setIfInBounds_toArray, List.set_cons_zero, List.set_cons_succ]
          refine take_at (i := 5) (some 22) (v := ?vg30) rfl rfl (by kernel_rfl) (by kernel_rfl) (by kernel_rfl) (fun _ _ _ h => h) (Or.inl ⟨by rfl, ?hg30⟩) ?rg30
          case hg30 => (intro w0; go_simp; try with_reducible rfl)
          simp only [Act.put, List.setIfInBounds_toArray, List.set_cons_zero, List.set_cons_succ]
          refine take_at (i := 6) (some 23) (v := ?vg31) rfl rfl (by kernel_rfl) (by kernel_rfl) (by kernel_rfl) (fun _ _ _ h => h) (Or.inl ⟨by rfl, ?hg31⟩) ?rg31
          case hg31 => (intro w0; go_simp; try with_reducible rfl)
          simp only [Act.put, List.setIfInBounds_toArray, List.set_cons_zero, List.set_cons_succ]
          refine take_at (i := 7) (some 24) (v := ?vg32) rfl rfl (by kernel_rfl) (by kernel_rfl) (by kernel_rfl) (fun _ _ _ h => h) (Or.inl ⟨by rfl, ?hg32⟩) ?rg32
          case hg32 => (intro w0; go_simp; try with_reducible rfl)
          simp only [Act.put, List.setIfInBounds_toArray, List.set_cons_zero, List.set_cons_succ]
          refine wpAny_ready (rs := [3, 8]) (by kernel_rfl) (by simp) ?_
          refine AllReady.cons (o := _) rfl (fun K hK => ?_) (AllReady.cons (o := _) rfl (fun K hK => ?_) AllReady.nil)
          · go_simp
            refine hK _ _ ?_
            clear hK K
            refine wpAny_ready (rs := [4, 8]) (by kernel_rfl) (by simp) ?_
            refine AllReady.cons (o := _) rfl (fun K hK => ?_) (AllReady.cons (o := _) rfl (fun K hK => ?_) AllReady.nil)
            · go_simp
              refine hK _ _ ?_
              clear hK K
              refine wpAny_ready (rs := [8]) (by kernel_rfl) (by simp) ?_
              refine AllReady.cons (o := _) rfl (fun K hK => ?_) AllReady.nil
              · go_simp
                refine hK _ _ ?_
                clear hK K
                refine wpAny_ready (rs := [9]) (by kernel_rfl) (by simp) ?_
                refine AllReady.cons (o := _) rfl (fun K hK => ?_) AllReady.nil
                · go_simp
                  refine hK _ _ ?_
                  clear hK K
                  refine wpAny_ready (rs := [10]) (by kernel_rfl) (by simp) ?_
                  refine AllReady.cons (o := _) rfl (fun K hK => ?_) AllReady.nil
                  go_simp
                  refine hK _ _ ?_
                  clear hK K
                  refine wpAny_done (by kernel_rfl) ?_ _
                  go_wp2
                  go_ret
                  exact ⟨ret_bool E1.out.symm, b_drew HB.out⟩
            · go_simp
              refine hK _ _ ?_
              clear hK K
              refine wpAny_ready (rs := [4, 9]) (by kernel_rfl) (by simp) ?_
              refine AllReady.cons (o := _) rfl (fun K hK => ?_) (AllReady.cons (o := _) rfl (fun K hK => ?_) AllReady.nil)
              · go_simp
                refine hK _ _ ?_
                clear hK K
                refine wpAny_ready (rs := [9]) (by kernel_rfl) (by simp) ?_
                refine AllReady.cons (o := _) rfl (fun K hK => ?_) AllReady.nil
                · go_simp
                  refine hK _ _ ?_
                  clear hK K
                  refine wpAny_ready (rs := [10]) (by kernel_rfl) (by simp) ?_
                  refine AllReady.cons (o := _) rfl (fun K hK => ?_) AllReady.nil
                  go_simp
                  refine hK _ _ ?_
                  clear hK K
                  refine wpAny_done (by kernel_rfl) ?_ _
                  go_wp2
                  go_ret
                  exact ⟨ret_bool E1.out.symm, b_drew HB.out⟩
              · go_simp
                refine hK _ _ ?_
                clear hK K
                refine wpAny_ready (rs := [4]) (by kernel_rfl) (by simp) ?_
                refine AllReady.cons (o := _) rfl (fun K hK => ?_) AllReady.nil
                · go_simp
                  refine hK _ _ ?_
                  clear hK K
                  refine wpAny_ready (rs := [10]) (by kernel_rfl) (by simp) ?_
                  refine AllReady.cons (o := _) rfl (fun K hK => ?_) AllReady.nil
                  go_simp
                  refine hK _ _ ?_
                  clear hK K
                  refine wpAny_done (by kernel_rfl) ?_ _
                  go_wp2
                  go_ret
                  exact ⟨ret_bool E1.out.symm, b_drew HB.out⟩
          · go_simp
            refine hK _ _ ?_
            clear hK K
            refine wpAny_ready (rs := [3, 9]) (by kernel_rfl) (by simp) ?_
            refine AllReady.cons (o := _) rfl (fun K hK => ?_) (AllReady.cons (o := _) rfl (fun K hK => ?_) AllReady.nil)
            · go_simp
              refine hK _ _ ?_
              clear hK K
              refine wpAny_ready (rs := [4, 9]) (by kernel_rfl) (by simp) ?_
              refine AllReady.cons (o := _) rfl (fun K hK => ?_) (AllReady.cons (o := _) rfl (fun K hK => ?_) AllReady.nil)
              · go_simp
                refine hK _ _ ?_
                clear hK K
                refine wpAny_ready (rs := [9]) (by kernel_rfl) (by simp) ?_
                refine AllReady.cons (o := _) rfl (fun K hK => ?_) AllReady.nil
                · go_simp
                  refine hK _ _ ?_
                  clear hK K
                  refine wpAny_ready (rs := [10]) (by kernel_rfl) (by simp) ?_
                  refine AllReady.cons (o := _) rfl (fun K hK => ?_) AllReady.nil
                  go_simp
                  refine hK _ _ ?_
                  clear hK K
                  refine wpAny_done (by kernel_rfl) ?_ _
                  go_wp2
                  go_ret
                  exact ⟨ret_bool E1.out.symm, b_drew HB.out⟩
              · go_simp
                refine hK _ _ ?_
                clear hK K
                refine wpAny_ready (rs := [4]) (by kernel_rfl) (by simp) ?_
                refine AllReady.cons (o := _) rfl (fun K hK => ?_) AllReady.nil
                · go_simp
                  refine hK _ _ ?_
                  clear hK K
                  refine wpAny_ready (rs := [10]) (by kernel_rfl) (by simp) ?_
                  refine AllReady.cons (o := _) rfl (fun K hK => ?_) AllReady.nil
                  go_simp
                  refine hK _ _ ?_
                  clear hK K
                  refine wpAny_done (by kernel_rfl) ?_ _
                  go_wp2
                  go_ret
                  exact ⟨ret_bool E1.out.symm, b_drew HB.out⟩
            · go_simp
              refine hK _ _ ?_
              clear hK K
              refine wpAny_ready (rs := [3]) (by kernel_rfl) (by simp) ?_
              refine AllReady.cons (o := _) rfl (fun K hK => ?_) AllReady.nil
              · go_simp
                refine hK _ _ ?_
                clear hK K
                refine wpAny_ready (rs := [4]) (by kernel_rfl) (by simp) ?_
                refine AllReady.cons (o := _) rfl (fun K hK => ?_) AllReady.nil
                · go_simp
                  refine hK _ _ ?_
                  clear hK K
                  refine wpAny_ready (rs := [10]) (by kernel_rfl) (by simp) ?_
                  refine AllReady.cons (o := _) rfl (fun K hK => ?_) AllReady.nil
                  go_simp
                  refine hK _ _ ?_
                  clear hK K
                  refine wpAny_done (by kernel_rfl) ?_ _
                  go_wp2
                  go_ret
                  exact ⟨ret_bool E1.out.symm, b_drew HB.out⟩
      · have E1 := Lib.hid (show q = true from by
          rw [← HQ.out, decide_eq_true_iff]
          have h := hT.out
          rw [List.take_of_length_le (by rw [HL.out]; omega), List.take_of_length_le (by rw [HL'.out]; omega)] at h
          exact h)
        go_wp2
        go_ret
        exact ⟨ret_bool E1.out.symm, HB.out⟩
  · have E1 := Lib.hid (show q = false from by
      rw [← hq, decide_eq_false_iff_not]
      intro e
      subst e
      omega)
    have hne : ((n : Int) != (n' : Int)) = true := by
      rw [bne_iff_ne]
      omega
    clear hnn rd rd' hr hr' hs hs' hl hl' hl2 hl2' hq
    go_enter Try.func15, Try.ntmps15
    go_wp2
    go_ret
    exact ⟨ret_bool E1.out.symm, Below.refl _ _⟩
/-- What Records of the reference returns: up to ten records of up to 140 bytes. -/
def RetRecs (w : World) (e : Ending) (w' : World) : Prop := ∃ recs, recs.length ≤ 10 ∧ Recs 140 recs ∧ RetRows w recs.length recs e w'
set_option maxHeartbeats 2000000 in
theorem refrecords_any (A : Option Addr) (n c : Nat) (l : List Int) (w : World) (rd : Rd w w.heap.size 1 A n (l.map (Value.int .i64))) (hI : ∀ x ∈ l, -9223372036854775808 ≤ x ∧ x ≤ 9223372036854775807) (hn : n ≤ 9223372036854775807) :
    Calls Try.prog 10 #[.slice A n c] w (RetRecs w) := by
  have RD := Lib.hid rd
  have HI := Lib.hid hI
  clear rd hI
  go_enter Try.func10, Try.ntmps10
  go_wp2
  go_loopw [3, 4] (fun s3 s4 wr => ∃ (k : Nat) (recs : List (List Int)) (A' : Option Addr) (c' : Nat) (vs : List Value), k ≤ n ∧ k ≤ 10 ∧ s4 = .int .i64 k ∧ s3 = .slice A' k c' ∧ Hid (recs.length = k) ∧ Hid (Recs 140 recs) ∧ Hid (wr.ownsRow w.heap.size 27 1 (.slice A' k c') k vs) ∧ Hid (Rows wr w.heap.size vs recs) ∧ k ≤ c' ∧ c' ≤ maxLen ∧ Hid (Below w.heap.size w wr)) (fun _ i _ => n - (intOf i).toNat)
  case atStart => exact ⟨0, [], none, 0, [], by omega, by omega, rfl, rfl, rfl, Lib.hid (fun x hx => by cases hx), Lib.hid (own_nil _ _ _ _), Lib.hid (Rows.nil _ _), by omega, by simp [maxLen], Lib.hid (Below.refl _ _)⟩
  case round =>
    obtain ⟨k, recs, A', c', vs, hkn, hk, rfl, rfl, HK, HRS, HO, HR, hc1, hc2, HB⟩ := hrel
    by_cases hlt : k < n ∧ k < 10
    · obtain ⟨h1, h2⟩ := hlt
      obtain ⟨b, o, hl, rfl, hb, hcell⟩ := (RD.out.below HB.out (Nat.le_refl _)).openMap h1
      have hx := HI.out _ (List.getElem_mem hl)
      obtain ⟨v, hv⟩ : ∃ v, l[k] = v := ⟨_, rfl⟩
      rw [hv] at hx hcell
      obtain ⟨x1, x2⟩ := hx
      have ha := around_bd v 1000000 (by omega)
      have d1 : decide ((k : Int) < (n : Int)) = true := by simp; omega
      have d2 : decide ((k : Int) < 10) = true := by simp; omega
      clear hv hl
      go_wp2_with fail
      refine (around_any v 1000000 _ x1 x2 (by omega) (by omega)).mono ?_
      rintro e w_ ⟨rfl, rfl⟩
      obtain ⟨a, hae⟩ : ∃ a, around v 1000000 = a := ⟨_, rfl⟩
      rw [hae] at ha ⊢
      obtain ⟨a1, a2⟩ := ha
      clear hae hcell
      go_upto_if 29 with (fail)
      go_cut [6] from 30 to 33 (fun s6 wx => ∃ sz : Nat, sz ≤ 140 ∧ s6 = .int .i64 sz ∧ wx = wr)
      case first =>
        by_cases h8 : a / 12 % 9 = 8
        · have q8 : (a / 12 % 9 == 8) = true := by rw [beq_iff_eq]; exact h8
          have e3 : a / 108 % 21 = ((a / 108 % 21).toNat : Int) := by omega
          have b3 : (a / 108 % 21).toNat ≤ 20 := by omega
          obtain ⟨y, hy⟩ : ∃ y, (a / 108 % 21).toNat = y := ⟨_, rfl⟩
          rw [hy] at e3 b3
          clear h8 hy
          go_wp2
          go_meet
          case rel => exact ⟨120 + y, by omega, by go_num, rfl⟩
        · have q8 : (a / 12 % 9 == 8) = false := by rw [beq_eq_false_iff_ne]; exact h8
          have e3 : a % 12 = ((a % 12).toNat : Int) := by omega
          have b3 : (a % 12).toNat ≤ 11 := by omega
          clear h8
          go_wp2
          go_meet
          case rel => exact ⟨(a % 12).toNat, by omega, by rw [← e3], rfl⟩
      case rest =>
        obtain ⟨sz, hsz, rfl, rfl⟩ := hcut
        have hb5 := Int.emod_nonneg a (show (5 : Int) ≠ 0 by decide)
        have hb6 := Int.emod_lt_of_pos a (show (0 : Int) < 5 by decide)
        go_wp2
        go_loopw [7, 8] (fun s7 s8 wi => ∃ (q : Nat) (A2 : Option Addr) (c2 : Nat) (x : List Int), q ≤ sz ∧ s8 = .int .i64 q ∧ s7 = .slice A2 q c2 ∧ Hid (x.length = q) ∧ Hid (Bytes x) ∧ Hid (wi.ownsRow wc.heap.size 5 1 (.slice A2 q c2) q (x.map (Value.int .u8))) ∧ q ≤ c2 ∧ c2 ≤ maxLen ∧ Hid (Below wc.heap.size wc wi)) (fun _ i _ => sz - (intOf i).toNat)
        case atStart => exact ⟨0, none, 0, [], by omega, rfl, rfl, rfl, Lib.hid (fun x hx => by cases hx), Lib.hid (own_nil _ _ _ _), by omega, by simp [maxLen], Lib.hid (Below.refl _ _)⟩
        case round =>
          obtain ⟨q, A2, c2, x, hq, rfl, rfl, HX, HXB, HO2, hd1, hd2, HB2⟩ := hrel
          by_cases hlt : q < sz
          · have m1 : (q : Int) * (a % 5) ≤ 140 * 4 := Int.mul_le_mul (by omega) (by omega) hb5 (by omega)
            have m0 : 0 ≤ (q : Int) * (a % 5) := Int.mul_nonneg (by omega) hb5
            have m2 : (q : Int) * (a % 5) ≤ 560 := m1
            obtain ⟨u, hu⟩ : ∃ u, (a / 7 + (q : Int) * (a % 5)) % 256 = u := ⟨_, rfl⟩
            have hu1 : 0 ≤ u ∧ u ≤ 255 := by omega
            have HOA := Lib.hid (HO2.out.alloc (.cells #[.int .u8 u] 5))
            have HU := Lib.hid hu1
            clear m1 hu1
            go_wp2_with (at_builtin; refine wpList_app _ rfl (.tmp 39) (.tmp 48) slBytes rfl rfl HOA.out rfl (rd_lit wr _ _ rfl rfl) (by intro u' hu'; simp at hu'; subst hu'; rfl) (q + 1) rfl (by unfold maxLen; omega) (by omega) (by have := HB2.out.size; simp; omega) ?_; intro A3 c3 w3 g1 g2 g3 g4 g5)
            go_roundw
            case rel => exact ⟨q + 1, A3, c3, x ++ [u], by omega, by go_num, rfl, Lib.hid (by simp [HX.out]), Lib.hid (fun y hy => by
              rcases List.mem_append.1 hy with h | h
              · exact HXB.out y h
              · simp at h
                rw [h]
                exact HU.out), by rw [List.map_append]; exact Lib.hid g3, g1, g2, Lib.hid (below_app (b_alloc HB2.out _) HOA.out g4 (Nat.le_refl _) (by have := HB2.out.size; simp; omega))⟩
            case measure => simp [intOf]; omega
          · obtain rfl : sz = q := by omega
            have HO3 := Lib.hid (own_below HO.out HB2.out)
            have HOR := Lib.hid (HO3.out.alloc (.cells #[.slice A2 sz c2] 27))
            have HB3 := Lib.hid (b_call HB.out HB2.out)
            go_wp2_with (at_builtin; refine wpList_app _ rfl (.tmp 50) (.tmp 52) slRows rfl rfl HOR.out rfl (rd_lit wr _ _ rfl rfl) (by intro u' hu'; simp at hu'; subst hu'; rfl) (k + 1) rfl (by unfold maxLen; omega) (by omega) (by have := HB3.out.size; simp; omega) ?_; intro A3 c3 w3 g1 g2 g3 g4 g5)
            have hRw := ((HR.out.below HB2.out).below (b_alloc (Below.refl _ wr) (.cells #[.slice A2 sz c2] 27))).grown HOR.out g4
            have hr1 : RowAt w3 w.heap.size (.slice A2 sz c2) x := (RowAt.mono ⟨A2, c2, by rw [HX.out], by rw [HX.out]; exact hd1, hd2, by rw [HX.out]; exact own_below HO2.out (b_alloc (Below.refl _ _) _)⟩ HB.out.size).grown HOR.out g4
            have HRw := Lib.hid (hRw.snoc hr1)
            have HOw := Lib.hid g3
            have HBw := Lib.hid (below_app (b_alloc HB3.out _) HOR.out g4 (Nat.le_refl _) (by have := HB3.out.size; simp; omega))
            have HRS2 := Lib.hid (HRS.out.append (show Recs 140 [x] from fun y hy => by
              simp at hy
              rw [hy, HX.out]
              exact ⟨HXB.out, hsz⟩))
            have HK2 := Lib.hid (show (recs ++ [x]).length = k + 1 from by rw [List.length_append, HK.out]; rfl)
            clear hRw hr1 g3 g4 g5
            go_roundw
            case rel => exact ⟨k + 1, recs ++ [x], A3, c3, _, by omega, by omega, by go_num, rfl, HK2, HRS2, HOw, HRw, g1, g2, HBw⟩
            case measure => simp [intOf]; omega
    · have HEND := Lib.hid (show RetRecs w (.returned (.slice A' k c')) wr from ⟨recs, by rw [HK.out]; exact hk, HRS.out, A', c', vs, by rw [HK.out], by rw [HK.out]; exact hc1, hc2, by rw [HK.out]; exact HO.out, HR.out, HB.out⟩)
      by_cases h1 : k < n
      · have h2 : k = 10 := by omega
        subst h2
        have d1 : decide ((10 : Int) < (n : Int)) = true := by simp; omega
        go_wp2
        go_ret
        exact HEND.out
      · have h2 : n = k := by omega
        have d1 : decide ((k : Int) < (n : Int)) = false := by simp; omega
        clear h2
        go_wp2
        go_ret
        exact HEND.out
end Go.Proofs.Ytmoajnekegbncaa
