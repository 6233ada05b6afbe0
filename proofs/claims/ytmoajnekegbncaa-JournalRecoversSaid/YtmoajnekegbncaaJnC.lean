/-
  WHAT IS PROVED HERE: the contracts of journal's frames and of the reader that it returns. Conditions: bounds that every machine's lengths meet; the reader's two variables lie in memory as stated.
-/
import Derived.Test.YtmoajnekegbncaaJnB
import Derived.Deep.Cut
import Derived.Deep.CutRange
import Derived.Deep.CutBlock
namespace Go.Proofs.Ytmoajnekegbncaa
set_option linter.unusedVariables false
open Go.ChangeShapes Go.WideShapes Go.ChangeAt Go.RowKit

/-- 's[i:j]' -/
theorem run_slice_mid {P : Program} {t e : TypeId} {size bytes : Nat} (T : SlT P t e size bytes) (A : Option Addr) (n c : Nat) (kd kd' : IntKind) (L H : Int) (h0 : 0 ≤ L) (h1 : L ≤ H) (h2 : H ≤ c) (w : World) :
    (Instr.slice t (.slice A n c) (some (.int kd L)) (some (.int kd' H)) none).run P w = .ok (.slice (if c = L.toNat then A else A.map (·.add (L.toNat * size))) (H.toNat - L.toNat) (c - L.toNat)) w := by
  obtain ⟨i, z, hi, _, h3, _⟩ := T.ex
  subst h3
  have h4 : 0 ≤ H := by omega
  have h5 : L ≤ (H.toNat : Int) := by omega
  have h6 := fun code => run_sliceBound (P := P) w kd L H.toNat code h0 h5
  simp [Instr.slice, run_underlying T.ht, Instr.sliceBounds, run_sliceBound, h0, h2, h4, h6, sizeOf, typeInfo, hi]
/-- A piece of a slice of bytes reads as that piece of the list. -/
theorem Rd.piece {w : World} {B n : Nat} {A : Option Addr} {L : List Int} (h : Rd w B 1 A n (L.map (Value.int .u8))) {i j c : Nat} (hij : i ≤ j) (hj : j ≤ n) (hc : n ≤ c) : Rd w B 1 (if c = i then A else A.map (·.add i)) (j - i) (((L.drop i).take (j - i)).map (Value.int .u8)) := by
  have hl : L.length = n := by have := h.1; simpa using this
  refine ⟨by simp; omega, fun hne => ?_⟩
  have hne' : (L.drop i).take (j - i) ≠ [] := by intro e; rw [e] at hne; exact hne rfl
  have hi : i < n ∧ i < j := by
    have h1 := List.length_pos_iff.2 hne'
    rw [List.length_take, List.length_drop] at h1
    omega
  obtain ⟨b, o, e, hb, hcell⟩ := h.2 (by intro e; rw [List.map_eq_nil_iff] at e; subst e; simp at hl; omega)
  subst e
  have hget : ∀ (q : Nat) (u : Value), (((L.drop i).take (j - i)).map (Value.int .u8))[q]? = some u → (L.map (Value.int .u8))[i + q]? = some u := fun q u hq => by
    rw [List.getElem?_map, List.getElem?_take] at hq
    split at hq
    · rw [List.getElem?_drop] at hq
      rw [List.getElem?_map]
      exact hq
    · cases hq
  by_cases hci : c = i
  · omega
  · rw [if_neg hci]
    refine ⟨b, o + i, by simp [Addr.add], hb, fun q u hq => ?_⟩
    rw [Nat.add_assoc]
    exact hcell _ _ (hget q u hq)
theorem lenI_err (L : List Int) : (lenI L).2.2 = 25 ∨ (lenI L).2.2 = 8 ∨ (lenI L).2.2 = 0 := by
  rcases L with _ | ⟨b, _ | ⟨c, L⟩⟩
  · exact .inl rfl
  · simp only [lenI]
    by_cases h : b < 128
    · rw [if_pos h]; exact .inr (.inr rfl)
    · rw [if_neg h]; exact .inl rfl
  · simp only [lenI]
    by_cases h : b < 128
    · rw [if_pos h]; exact .inr (.inr rfl)
    · rw [if_neg h]
      by_cases h2 : 128 ≤ c
      · rw [if_pos h2]; exact .inr (.inl rfl)
      · rw [if_neg h2]
        by_cases h3 : c = 0 ∨ 4000 < b - 128 + 128 * c
        · rw [if_pos h3]; exact .inr (.inl rfl)
        · rw [if_neg h3]; exact .inr (.inr rfl)
theorem lenV_eq {L : List Int} {m k : Nat} {e : Int} (h1 : (lenI L).1 = m) (h2 : (lenI L).2.1 = k) (h3 : (lenI L).2.2 = e) : lenV L = .tuple #[.int .i64 m, .int .i64 k, .int .i64 e] := by unfold lenV; rw [h1, h2, h3]
theorem sumB_get (x : List Int) {q : Nat} (h : q < (sumB x).length) : (sumB x)[q] = sumOf x / 2 ^ (8 * q) % 256 := by
  have e : (256 : Int) ^ q = 2 ^ (8 * q) := by rw [Int.pow_mul]; rfl
  rw [← e]
  exact leB_get 8 _ q h
theorem step_zero {L : List Int} (h : (lenI L).2.2 = 0) : stepI L = if L.length < (lenI L).2.1 + 8 + (lenI L).1 then .torn else
  if (L.drop (lenI L).2.1).take 8 = sumB ((L.drop ((lenI L).2.1 + 8)).take (lenI L).1) then .one ((L.drop ((lenI L).2.1 + 8)).take (lenI L).1) ((lenI L).2.1 + 8 + (lenI L).1)
  else if (lenI L).2.1 + 8 + (lenI L).1 < L.length then .sum else .torn := by
  rw [stepI, if_neg (by omega), if_neg (by omega)]
/-- What the reader does at position p. -/
def NextRet (w : World) (b2 B : Nat) (L : List Int) (p : Nat) (e : Ending) (w' : World) : Prop :=
  (stepI (L.drop p) = .torn ∧ e = .returned (.tuple #[.slice none 0 0, .int .i64 25]) ∧ Below w.heap.size w w') ∨
  (stepI (L.drop p) = .form ∧ e = .returned (.tuple #[.slice none 0 0, .int .i64 8]) ∧ Below w.heap.size w w') ∨
  (stepI (L.drop p) = .sum ∧ e = .returned (.tuple #[.slice none 0 0, .int .i64 26]) ∧ Below w.heap.size w w') ∨
  (∃ x m A c, stepI (L.drop p) = .one x m ∧ e = .returned (.tuple #[.slice A x.length c, .int .i64 0]) ∧ x.length ≤ c ∧ c ≤ maxLen ∧ Rd w' B 1 A x.length (x.map (Value.int .u8)) ∧ Only (· = b2) w w' ∧ Vr w' b2 3 #[.int .i64 ((p + m : Nat) : Int)])
set_option maxHeartbeats 1000000 in
theorem next_any (b1 b2 B : Nat) (A : Option Addr) (n c : Nat) (L : List Int) (p : Nat) (hL : Bytes L) (w : World) (rd : Rd w B 1 A n (L.map (Value.int .u8))) (hB : B ≤ b2) (V1 : w.cell? ⟨b1, 0, none⟩ = some (.slice A n c)) (V2 : Vr w b2 3 #[.int .i64 p]) (hb : b1 ≠ b2) (hp : p < n) (hn : n ≤ c) (hc : c ≤ maxLen) (hm : n ≤ 1000000000000) :
    Calls Try.prog 33 #[.pointer (some ⟨b1, 0, none⟩), .pointer (some ⟨b2, 0, none⟩)] w (NextRet w b2 B L p) := by
  unfold maxLen at hc
  have hl : L.length = n := by have := rd.1; simpa using this
  have hlt2 := V2.lt
  have v2 := V2.cell 0
  have f2 := V2.frozen 0
  have HV2 := Lib.hid V2
  have RD := Lib.hid rd
  have hsl := fun (W : World) => run_slice_from slBytes A n c .i64 (p : Int) (by omega) (by omega) W
  simp only [Int.toNat_natCast, Nat.mul_one] at hsl
  have hcp : ¬ c = p := by omega
  rw [if_neg hcp] at hsl
  have rd1 := rd.piece (i := p) (j := n) (c := c) (by omega) (by omega) (by omega)
  rw [if_neg hcp, List.take_of_length_le (by rw [List.length_drop]; omega)] at rd1
  have RD1 := Lib.hid (rd1.more (by omega : B ≤ w.heap.size))
  have HL := Lib.hid hl
  have hD := hL.drop p
  have hDl : (L.drop p).length = n - p := by rw [List.length_drop, hl]
  have HE := Lib.hid (lenI_err (L.drop p))
  clear rd V2 hl hcp rd1
  generalize hD' : L.drop p = D at *
  have HDD := Lib.hid hD'
  have HDL := Lib.hid hDl
  clear hD' hDl
  have HLV := Lib.hid (fun m k e => lenV_eq (L := D) (m := m) (k := k) (e := e))
  go_enter Try.func33, Try.ntmps33
  go_wp2_with fail
  refine (readlen_any _ (n - p) (c - p) D hD _ RD1.out (by omega)).mono ?_
  rintro e w_ ⟨rfl, rfl⟩
  rcases HE.out with h25 | h8 | h0
  · have HS := Lib.hid (show stepI D = .torn from by unfold stepI; rw [if_pos h25])
    rw [HLV.out _ _ _ rfl rfl h25]
    clear h25
    generalize (lenI D).1 = mm
    generalize (lenI D).2.1 = kk
    go_wp2
    exact bodyPost_ret (v := .tuple #[.slice none 0 0, .int .i64 25]) (by simp [results, Try.results33, go_sem]) rfl (.inl ⟨by rw [HDD.out]; exact HS.out, rfl, Below.refl _ _⟩)
  · have HS := Lib.hid (show stepI D = .form from by unfold stepI; rw [if_neg (by omega), if_pos h8])
    rw [HLV.out _ _ _ rfl rfl h8]
    clear h8
    generalize (lenI D).1 = mm
    generalize (lenI D).2.1 = kk
    go_wp2
    exact bodyPost_ret (v := .tuple #[.slice none 0 0, .int .i64 8]) (by simp [results, Try.results33, go_sem]) rfl (.inr (.inl ⟨by rw [HDD.out]; exact HS.out, rfl, Below.refl _ _⟩))
  · obtain ⟨g1, g2, g3, g4⟩ := lenI_ok hD (by omega) (by omega)
    have HST := Lib.hid (step_zero h0)
    rw [HLV.out _ _ _ rfl rfl h0]
    clear h0 HLV g2
    generalize (lenI D).1 = mm at *
    generalize (lenI D).2.1 = kk at *
    have k1 : 1 ≤ kk ∧ kk ≤ 2 := by rw [g1]; unfold varL; split <;> omega
    obtain ⟨k1, k2⟩ := k1
    have hkn : p + kk ≤ n := by have := HDL.out; omega
    have HG := Lib.hid g1
    clear g1 g4
    by_cases hlong : n < p + kk + 8 + mm
    · have HS := Lib.hid (show stepI D = .torn from by rw [HST.out, HDL.out, if_pos (by omega)])
      have hgt : decide ((n : Int) < (p : Int) + (kk : Int) + 8 + (mm : Int)) = true := by rw [decide_eq_true_iff]; omega
      clear hsl
      go_wp2
      exact bodyPost_ret (v := .tuple #[.slice none 0 0, .int .i64 25]) (by simp [results, Try.results33, go_sem]) rfl (.inl ⟨by rw [HDD.out]; exact HS.out, rfl, Below.refl _ _⟩)
    · have hgt : decide ((n : Int) < (p : Int) + (kk : Int) + 8 + (mm : Int)) = false := by rw [decide_eq_false_iff_not]; omega
      clear hsl
      obtain ⟨x, hx⟩ : ∃ x, (D.drop (kk + 8)).take mm = x := ⟨_, rfl⟩
      obtain ⟨S, hS⟩ : ∃ S, (D.drop kk).take 8 = S := ⟨_, rfl⟩
      have rd2 := RD.out.piece (i := p + kk + 8) (j := p + kk + 8 + mm) (c := c) (by omega) (by omega) (by omega)
      have rd3 := RD.out.piece (i := p + kk) (j := p + kk + 8) (c := c) (by omega) (by omega) (by omega)
      have e2 : (L.drop (p + kk + 8)).take mm = x := by rw [← hx, ← HDD.out, List.drop_drop, Nat.add_assoc]
      have e3 : (L.drop (p + kk)).take 8 = S := by rw [← hS, ← HDD.out, List.drop_drop]
      rw [Nat.add_sub_cancel_left, e2] at rd2
      rw [Nat.add_sub_cancel_left, e3] at rd3
      have s2 := fun (W : World) => run_slice_mid slBytes A n c .i64 .i64 ((p : Int) + (kk : Int) + 8) ((p : Int) + (kk : Int) + 8 + (mm : Int)) (by omega) (by omega) (by omega) W
      have s3 := fun (W : World) => run_slice_mid slBytes A n c .i64 .i64 ((p : Int) + (kk : Int)) ((p : Int) + (kk : Int) + 8) (by omega) (by omega) (by omega) W
      have t1 : ((p : Int) + (kk : Int) + 8).toNat = p + kk + 8 := by omega
      have t2 : ((p : Int) + (kk : Int) + 8 + (mm : Int)).toNat = p + kk + 8 + mm := by omega
      have t3 : ((p : Int) + (kk : Int)).toNat = p + kk := by omega
      rw [t1, t2, Nat.add_sub_cancel_left] at s2
      rw [t1, t3, Nat.add_sub_cancel_left] at s3
      simp only [Nat.mul_one] at s2 s3
      generalize (if c = p + kk + 8 then A else A.map (·.add (p + kk + 8))) = A2 at *
      generalize (if c = p + kk then A else A.map (·.add (p + kk))) = A3 at *
      have hxl : x.length = mm := by have := rd2.1; simpa using this
      have hSl : S.length = 8 := by have := rd3.1; simpa using this
      have R2 := Lib.hid rd2
      have R3 := Lib.hid rd3
      have HXL := Lib.hid hxl
      have HSL := Lib.hid hSl
      have HX := Lib.hid hx
      have HSS := Lib.hid hS
      have hxb := Lib.hid (show Bytes x from by rw [← hx]; exact (hD.drop _).take _)
      clear rd2 rd3 hxl hSl hx hS e2 e3 t1 t2 t3
      go_wp2_with fail
      refine (bytes_any recTxt (by decide) x hxb.out _ mm _ (by omega) _ (R2.out.more (by omega))).mono ?_
      rintro e w1 ⟨rfl, hb1⟩
      rw [sumOf_eq]
      have v1 := cell_keep hb1 V1
      have v2' := cell_keep hb1 v2
      have HB1 := Lib.hid hb1
      clear hb1
      go_wp2
      go_loop [48] (fun i => ∃ q : Nat, q ≤ 8 ∧ i = .int .i64 q ∧ Hid (S.take q = (sumB x).take q)) (fun i => 8 - (intOf i).toNat)
      case atStart => exact ⟨0, by omega, rfl, rfl⟩
      case round =>
        obtain ⟨q, hq, rfl, hT⟩ := hrel
        by_cases hlt : q < 8
        · obtain ⟨b, o, hl, rfl, hb, hcell⟩ := (R3.out.below HB1.out (by omega)).openMap hlt
          have hg := sumB_get x (q := q) (by rw [sumB_len]; exact hlt)
          by_cases he : S[q] = (sumB x)[q]'(by rw [sumB_len]; exact hlt)
          · have E1 := Lib.hid (take_eq_succ hT.out hl (by rw [sumB_len]; exact hlt) he)
            have q1 : (S[q] == sumOf x / 2 ^ (8 * q) % 256) = true := by rw [← hg, beq_iff_eq]; exact he
            clear he hg
            generalize S[q] = sq at *
            go_wp2
            go_round
            case rel => exact ⟨q + 1, by omega, by go_num, E1⟩
            case measure => simp [intOf]; omega
          · have E1 := Lib.hid (show ¬ S = sumB x from fun e => he (by subst e; rfl))
            have q1 : (S[q] == sumOf x / 2 ^ (8 * q) % 256) = false := by rw [← hg, beq_eq_false_iff_ne]; exact he
            clear he hg
            generalize S[q] = sq at *
            by_cases hsh : p + kk + 8 + mm < n
            · have hgt2 : decide ((p : Int) + (kk : Int) + 8 + (mm : Int) < (n : Int)) = true := by rw [decide_eq_true_iff]; omega
              have HS := Lib.hid (show stepI D = .sum from by rw [HST.out, HDL.out, if_neg (by omega), HSS.out, HX.out, if_neg E1.out, if_pos (by omega)])
              go_wp2
              exact bodyPost_ret (v := .tuple #[.slice none 0 0, .int .i64 26]) (by simp [results, Try.results33, go_sem]) rfl (.inr (.inr (.inl ⟨by rw [HDD.out]; exact HS.out, rfl, HB1.out⟩)))
            · have hgt2 : decide ((p : Int) + (kk : Int) + 8 + (mm : Int) < (n : Int)) = false := by rw [decide_eq_false_iff_not]; omega
              have HS := Lib.hid (show stepI D = .torn from by rw [HST.out, HDL.out, if_neg (by omega), HSS.out, HX.out, if_neg E1.out, if_neg (by omega)])
              go_wp2
              exact bodyPost_ret (v := .tuple #[.slice none 0 0, .int .i64 25]) (by simp [results, Try.results33, go_sem]) rfl (.inl ⟨by rw [HDD.out]; exact HS.out, rfl, HB1.out⟩)
        · obtain rfl : q = 8 := by omega
          have E1 := Lib.hid (show S = sumB x from by
            have h := hT.out
            rw [List.take_of_length_le (by rw [HSL.out]; omega), List.take_of_length_le (by rw [sumB_len]; omega)] at h
            exact h)
          have HS := Lib.hid (show stepI D = .one x (kk + 8 + mm) from by rw [HST.out, HDL.out, if_neg (by omega), HSS.out, HX.out, if_pos E1.out])
          have f2' : w1.frozen? ⟨b2, 0, none⟩ = false := (HV2.out.call HB1.out).frozen 0
          have HV := Lib.hid (HV2.out.call HB1.out)
          have HR := Lib.hid (R2.out.below HB1.out (by omega))
          go_wp2
          refine bodyPost_ret (v := .tuple #[.slice A2 mm (c - (p + kk + 8)), .int .i64 0]) (by simp [results, Try.results33, go_sem]) rfl (.inr (.inr (.inr ⟨x, kk + 8 + mm, A2, c - (p + kk + 8), by rw [HDD.out]; exact HS.out, by rw [HXL.out], by rw [HXL.out]; omega, by unfold maxLen; omega, ?_, ?_, ?_⟩)))
          · rw [HXL.out]
            exact HR.out.setCell hB _
          · exact Only.setCell (p := ⟨b2, 0, none⟩) (Only.of_below HB1.out (fun x => x = b2) (fun k h1 h2 => by omega)) (.inl rfl) _
          · have h := HV.out.set 0 (.int .i64 ((p : Int) + (kk : Int) + 8 + (mm : Int)))
            have e : ((p + (kk + 8 + mm) : Nat) : Int) = (p : Int) + (kk : Int) + 8 + (mm : Int) := by omega
            rw [e]
            exact h
/-- frames hands back the reader, its two variables new. -/
theorem frames_any (A : Option Addr) (n c : Nat) (w : World) :
    Calls Try.prog 25 #[.slice A n c] w fun e w' => e = .returned (.func (.func 33) #[] #[.pointer (some ⟨w.heap.size, 0, none⟩), .pointer (some ⟨w.heap.size + 1, 0, none⟩)]) ∧ w' = (w.alloc (.cells #[.slice A n c] 27)).alloc (.cells #[.int .i64 0] 3) := by
  go_enter Try.func25, Try.ntmps25
  go_wp2
  go_ret
  exact ⟨rfl, by first | rfl | simp [World.setCell_alloc]⟩
end Go.Proofs.Ytmoajnekegbncaa
