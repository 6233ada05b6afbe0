/-
  WHAT IS PROVED HERE: a slice of byte slices in memory; the contracts of journal's Bytes, Crash and Records. No condition but bounds that every machine's lengths meet, and that the log lies in memory as stated.
-/
import Derived.Test.YtmoajnekegbncaaJnF
import Derived.Test.YtmoajnekegbncaaMake
namespace Go.Proofs.Ytmoajnekegbncaa
set_option linter.unusedVariables false
open Go.ChangeShapes Go.WideShapes Go.ChangeAt Go.RowKit

theorem slRows : SlT Try.prog 23 27 1 24 := .mk' (z := .slice none 0 0) Try.underlying23 (by kernel_rfl) rfl (by omega)
/-- one record, in memory of its own not below lo -/
def RowAt (w : World) (lo : Nat) (v : Value) (x : List Int) : Prop := ∃ A c, v = .slice A x.length c ∧ x.length ≤ c ∧ c ≤ maxLen ∧ w.ownsRow lo 5 1 (.slice A x.length c) x.length (x.map (Value.int .u8))
def Rows (w : World) (lo : Nat) (vs : List Value) (recs : List (List Int)) : Prop := vs.length = recs.length ∧ ∀ (i : Nat) (v : Value) (x : List Int), vs[i]? = some v → recs[i]? = some x → RowAt w lo v x
theorem own_kept {w w' : World} {base : Nat} {e : TypeId} {sz n : Nat} {v : Value} {xs : List Value} (h : w.ownsRow base e sz v n xs) (hk : ∀ k cur, w.heap[k]? = some (.cells cur e (0, 0)) → base ≤ k → w'.heap[k]? = w.heap[k]?) : w'.ownsRow base e sz v n xs := by
  refine ⟨h.1, ?_⟩
  rcases h.2 with h2 | ⟨g, cap, cur, h1, h2, h3, h4⟩
  · exact .inl h2
  · exact .inr ⟨g, cap, cur, h1, h2, (hk g cur h3 h2).trans h3, h4⟩
section
variable {w w' : World} {lo : Nat} {vs : List Value} {recs : List (List Int)} {v : Value} {x : List Int}
theorem RowAt.kept (h : RowAt w lo v x) (hk : ∀ k cur, w.heap[k]? = some (.cells cur 5 (0, 0)) → lo ≤ k → w'.heap[k]? = w.heap[k]?) : RowAt w' lo v x := by
  obtain ⟨A, c, e, h1, h2, h3⟩ := h
  exact ⟨A, c, e, h1, h2, own_kept h3 hk⟩
theorem RowAt.mono (h : RowAt w lo v x) {lo' : Nat} (hl : lo' ≤ lo) : RowAt w lo' v x := by
  obtain ⟨A, c, e, h1, h2, h3⟩ := h
  exact ⟨A, c, e, h1, h2, own_mono h3 hl⟩
theorem RowAt.rd (h : RowAt w lo v x) : ∃ A c, v = .slice A x.length c ∧ x.length ≤ c ∧ c ≤ maxLen ∧ Rd w w.heap.size 1 A x.length (x.map (Value.int .u8)) ∧ ∀ b o, A = some ⟨b, o, none⟩ → x ≠ [] → lo ≤ b := by
  obtain ⟨A, c, e, h1, h2, h3⟩ := h
  refine ⟨A, c, e, h1, h2, rd_own h3, fun b o he hne => ?_⟩
  rcases h3.2 with ⟨_, h4⟩ | ⟨g, cap, cur, h4, h5, _⟩
  · exact absurd (List.eq_nil_of_length_eq_zero h4) hne
  · injection h4 with e1 e2 e3
    rw [he] at e1
    injection e1 with e1
    injection e1 with e1 e4
    rw [e1]
    exact h5
theorem Rows.kept (h : Rows w lo vs recs) (hk : ∀ k cur, w.heap[k]? = some (.cells cur 5 (0, 0)) → lo ≤ k → w'.heap[k]? = w.heap[k]?) : Rows w' lo vs recs :=
  ⟨h.1, fun i v x hv hx => (h.2 i v x hv hx).kept hk⟩
theorem Rows.below (h : Rows w lo vs recs) (hb : Below w.heap.size w w') : Rows w' lo vs recs :=
  h.kept fun k cur hc _ => hb.block k (Array.getElem?_eq_some_iff.1 hc).1
theorem Rows.only {F : Nat → Prop} (h : Rows w lo vs recs) (hb : Only F w w') (hF : ∀ k, lo ≤ k → k < w.heap.size → ¬ F k) : Rows w' lo vs recs :=
  h.kept fun k cur hc hl => hb.heap (Array.getElem?_eq_some_iff.1 hc).1 (hF k hl (Array.getElem?_eq_some_iff.1 hc).1)
/-- a row of slices grows: the rows of bytes stay -/
theorem Rows.grown {base sz n : Nat} {r : Value} {xs : List Value} (h : Rows w lo vs recs) (hr : w.ownsRow base 27 sz r n xs) (hg : w.grownBy w' r.ownBlock) : Rows w' lo vs recs :=
  h.kept fun k cur hc _ => hg.block k (Array.getElem?_eq_some_iff.1 hc).1 fun e => by
    rcases hr.2 with ⟨h2, _⟩ | ⟨g, cap, cur', h1, _, h3, _⟩
    · rw [h2] at e
      cases e
    · rw [h1] at e
      have e : k = g := by simpa [Value.ownBlock] using e
      subst e
      rw [hc] at h3
      injection h3 with h3
      injection h3 with _ h3 _
      cases h3
theorem RowAt.grown {base sz n : Nat} {r : Value} {xs : List Value} (h : RowAt w lo v x) (hr : w.ownsRow base 27 sz r n xs) (hg : w.grownBy w' r.ownBlock) : RowAt w' lo v x := by
  have h0 : Rows w lo [v] [x] := ⟨rfl, fun i v' x' hv hx => by
    rcases i with _ | i
    · simp at hv hx
      rw [← hv, ← hx]
      exact h
    · simp at hv⟩
  exact (h0.grown hr hg).2 0 v x rfl rfl
theorem Rows.snoc (h : Rows w lo vs recs) (k : RowAt w lo v x) : Rows w lo (vs ++ [v]) (recs ++ [x]) := by
  refine ⟨by simp [h.1], fun i v' x' hv hx => ?_⟩
  rcases Nat.lt_or_ge i vs.length with hi | hi
  · rw [List.getElem?_append_left hi] at hv
    rw [List.getElem?_append_left (by have := h.1; omega)] at hx
    exact h.2 i v' x' hv hx
  · rw [List.getElem?_append_right hi] at hv
    rw [List.getElem?_append_right (by have := h.1; omega)] at hx
    have := (List.getElem?_eq_some_iff.1 hv).1
    simp at this
    have hz : i - vs.length = 0 := by omega
    have hz' : i - recs.length = 0 := by have := h.1; omega
    rw [hz] at hv
    rw [hz'] at hx
    simp at hv hx
    rw [← hv, ← hx]
    exact k
theorem Rows.nil (w : World) (lo : Nat) : Rows w lo [] [] := ⟨rfl, fun i v x h => by simp at h⟩
theorem Rows.mono (h : Rows w lo vs recs) {lo' : Nat} (hl : lo' ≤ lo) : Rows w lo' vs recs := ⟨h.1, fun i v x hv hx => (h.2 i v x hv hx).mono hl⟩
theorem Rows.cell (h : Rows w lo vs recs) : ∀ u ∈ vs, u.oneCell' = true := by
  intro u hu
  obtain ⟨i, hi, rfl⟩ := List.mem_iff_getElem.1 hu
  obtain ⟨A, c, e, _⟩ := h.2 i vs[i] (recs[i]'(by have := h.1; omega)) (List.getElem?_eq_getElem hi) (List.getElem?_eq_getElem _)
  rw [e]
  rfl
end
/-- A new slice of m new byte slices comes back. -/
def RetRows (w : World) (m : Nat) (recs : List (List Int)) (e : Ending) (w' : World) : Prop :=
  ∃ A c vs, e = .returned (.slice A m c) ∧ m ≤ c ∧ c ≤ maxLen ∧ w'.ownsRow w.heap.size 27 1 (.slice A m c) m vs ∧ Rows w' w.heap.size vs recs ∧ Below w.heap.size w w'
theorem Lq.data {w : World} {F : Nat → Prop} {g : Nat} {D : List Int} {S : List Value} {m : Nat} (h : Lq w F g D S m) : ∃ n A c B d, D.length = n ∧ n ≤ c ∧ c ≤ maxLen ∧ Vr w g 51 #[.slice A n c, .slice B m d] ∧ Rd w w.heap.size 1 A n (D.map (Value.int .u8)) ∧ Rd w w.heap.size 2 B m S := by
  obtain ⟨n, A, c, B, d, h⟩ := h
  exact ⟨n, A, c, B, d, h.hn, h.hc, h.hcm, h.V, rd_own h.own, rd_own h.sp⟩
set_option maxHeartbeats 1000000 in
theorem lbytes_any (F : Nat → Prop) (g : Nat) (D : List Int) (S : List Value) (m N : Nat) (w : World) (h : Lq w F g D S m) (hN : D.length = N) (hm : N ≤ 140737488355328) :
    Calls Try.prog 12 #[.pointer (some ⟨g, 0, none⟩)] w (RetSl w 5 1 N (D.map (Value.int .u8))) := by
  obtain ⟨n, A, c, B, d, hn, hc, hcm, V, rd, _⟩ := h.data
  obtain rfl : n = N := by omega
  have z0 := V.cell 0
  have hl := V.lt
  have RD := Lib.hid rd
  clear h hn V rd hN
  go_enter Try.func12, Try.ntmps12
  go_wp2_with fail
  refine (clone_any A n c D _ RD.out hm).mono ?_
  rintro e w1 ⟨A1, c1, rfl, g1, g2, g3, hb⟩
  go_wp2
  go_ret
  exact ⟨A1, c1, rfl, g1, g2, g3, hb⟩
/-- how many bytes a crash leaves -/
def leftN (left : Int) (n : Nat) : Nat := if left < 0 then 0 else min left.toNat n
set_option maxHeartbeats 1000000 in
theorem crash_any (F : Nat → Prop) (g : Nat) (D : List Int) (S : List Value) (m N : Nat) (left : Int) (w : World) (h : Lq w F g D S m) (hN : D.length = N) (hm : N ≤ 140737488355328) (h1 : -9223372036854775808 ≤ left) (h2 : left ≤ 9223372036854775807) :
    Calls Try.prog 23 #[.pointer (some ⟨g, 0, none⟩), .int .i64 left] w (RetSl w 5 1 (leftN left N) ((D.take (leftN left N)).map (Value.int .u8))) := by
  obtain ⟨n, A, c, B, d, hn, hc, hcm, V, rd, _⟩ := h.data
  obtain rfl : n = N := by omega
  have z0 := V.cell 0
  have hl := V.lt
  unfold maxLen at hcm
  obtain ⟨kk, hkk⟩ : ∃ kk, leftN left n = kk := ⟨_, rfl⟩
  have hkn : kk ≤ n := by rw [← hkk]; unfold leftN; split <;> omega
  obtain ⟨q, hq⟩ : ∃ q : Int, (if left < 0 then (0 : Int) else left) = q := ⟨_, rfl⟩
  have hmm : (if (n : Int) < q then (n : Int) else q) = (kk : Int) := by
    rw [← hkk, ← hq]
    unfold leftN
    by_cases h : left < 0
    · rw [if_pos h, if_pos h, if_neg (by omega)]; rfl
    · rw [if_neg h, if_neg h]
      split <;> omega
  rw [hkk]
  have hsl := fun (W : World) => run_slice_to slBytes A n c .i64 (kk : Int) (by omega) (by omega) W
  simp only [Int.toNat_natCast] at hsl
  have RD := Lib.hid (rd.take hkn)
  rw [Nat.mul_one, ← List.map_take] at RD
  clear h hn V rd hN hkk
  go_enter Try.func23, Try.ntmps23
  go_wp2
  refine wp_region_any (by kernel_rfl) ?_
  change wpAny _ _ _ _ _ _ _ (World.drew _)
  refine take_at (i := 0) (some 5) (v := ?vg2) rfl rfl (by kernel_rfl) (by kernel_rfl) (by kernel_rfl) (fun _ _ _ h => h) (Or.inl ⟨by rfl, ?hg2⟩) ?rg2
  case hg2 => (intro w0; go_simp; try with_reducible rfl)
  simp only [Act.put, List.setIfInBounds_toArray, List.set_cons_zero, List.set_cons_succ]
  refine take_at (i := 1) (some 6) (v := ?vg3) rfl rfl (by kernel_rfl) (by kernel_rfl) (by kernel_rfl) (fun _ _ _ h => h) (Or.inl ⟨by rfl, ?hg3⟩) ?rg3
  case hg3 => (intro w0; go_simp; try with_reducible rfl)
  simp only [Act.put, List.setIfInBounds_toArray, List.set_cons_zero, List.set_cons_succ]
  refine take_at (i := 2) (some 7) (v := ?vg4) rfl rfl (by kernel_rfl) (by kernel_rfl) (by kernel_rfl) (fun _ _ _ h => h) (Or.inl ⟨by rfl, ?hg4⟩) ?rg4
  case hg4 => (intro w0; go_simp; try with_reducible rfl)
  simp only [Act.put, List.setIfInBounds_toArray, List.set_cons_zero, List.set_cons_succ]
  refine take_at (i := 4) (some 9) (v := ?vg5) rfl rfl (by kernel_rfl) (by kernel_rfl) (by kernel_rfl) (fun _ _ _ h => h) (Or.inl ⟨by rfl, ?hg5⟩) ?rg5
  case hg5 => (intro w0; go_simp; try with_reducible rfl)
  simp only [Act.put, List.setIfInBounds_toArray, List.set_cons_zero, List.set_cons_succ]
  refine take_at (i := 5) (some 10) (v := ?vg6) rfl rfl (by kernel_rfl) (by kernel_rfl) (by kernel_rfl) (fun _ _ _ h => h) (Or.inl ⟨by rfl, ?hg6⟩) ?rg6
  case hg6 => (intro w0; go_simp; try with_reducible rfl)
  simp only [Act.put, List.setIfInBounds_toArray, List.set_cons_zero, List.set_cons_succ]
  refine take_at (i := 6) (some 11) (v := ?vg7) rfl rfl (by kernel_rfl) (by kernel_rfl) (by kernel_rfl) (fun _ _ _ h => h) (Or.inl ⟨by rfl, ?hg7⟩) ?rg7
  case hg7 => (intro w0; go_simp; try with_reducible rfl)
  simp only [Act.put, List.setIfInBounds_toArray, List.set_cons_zero, List.set_cons_succ]
  refine take_at (i := 7) (some 12) (v := ?vg8) rfl rfl (by kernel_rfl) (by kernel_rfl) (by kernel_rfl) (fun _ _ _ h => h) (Or.inl ⟨by rfl, ?hg8⟩) ?rg8
  case hg8 => (intro w0; go_simp; try with_reducible rfl)
  simp only [Act.put, List.setIfInBounds_toArray, List.set_cons_zero, List.set_cons_succ]
  refine take_at (i := 8) (some 13) (v := ?vg9) rfl rfl (by kernel_rfl) (by kernel_rfl) (by kernel_rfl) (fun _ _ _ h => h) (Or.inl ⟨by rfl, ?hg9⟩) ?rg9
  case hg9 => (intro w0; go_simp; try with_reducible rfl)
  simp only [Act.put, List.setIfInBounds_toArray, List.set_cons_zero, List.set_cons_succ]
  refine wpAny_ready (rs := [3, 9]) (by kernel_rfl) (by simp) ?_
  refine AllReady.cons (o := _) rfl (fun K hK => ?_) (AllReady.cons (o := _) rfl (fun K hK => ?_) AllReady.nil)
  · go_simp
    refine hK _ _ ?_
    clear hK K
    refine wpAny_ready (rs := [9]) (by kernel_rfl) (by simp) ?_
    refine AllReady.cons (o := _) rfl (fun K hK => ?_) AllReady.nil
    go_simp
    refine hK _ _ ?_
    clear hK K
    refine take_at (i := 10) (some 15) (v := ?vg11) rfl rfl (by kernel_rfl) (by kernel_rfl) (by kernel_rfl) (fun _ _ _ h => h) (Or.inl ⟨by rfl, ?hg11⟩) ?rg11
    case hg11 => (intro w0; go_simp; try with_reducible rfl)
    simp only [Act.put, List.setIfInBounds_toArray, List.set_cons_zero, List.set_cons_succ]
    refine take_at (i := 11) (some 16) (v := ?vg12) rfl rfl (by kernel_rfl) (by kernel_rfl) (by kernel_rfl) (fun _ _ _ h => h) (Or.inl ⟨by rfl, ?hg12⟩) ?rg12
    case hg12 => (intro w0; go_simp; try with_reducible rfl)
    simp only [Act.put, List.setIfInBounds_toArray, List.set_cons_zero, List.set_cons_succ]
    refine take_at (i := 12) (some 17) (v := ?vg13) rfl rfl (by kernel_rfl) (by kernel_rfl) (by kernel_rfl) (fun _ _ _ h => h) (Or.inl ⟨by rfl, ?hg13⟩) ?rg13
    case hg13 => (intro w0; go_simp; try with_reducible rfl)
    simp only [Act.put, List.setIfInBounds_toArray, List.set_cons_zero, List.set_cons_succ]
    refine wpAny_ready (rs := [13]) (by kernel_rfl) (by simp) ?_
    refine AllReady.cons (o := _) rfl (fun K hK => ?_) AllReady.nil
    go_simp
    refine (clone_any A kk c (D.take kk) w.drew RD.out (by omega)).mono ?_
    rintro e w1 ⟨A1, c1, rfl, g1, g2, g3, hb⟩
    refine hK _ _ ?_
    clear hK
    refine wpAny_ready (rs := [14]) (by kernel_rfl) (by simp) ?_
    refine AllReady.cons (o := _) rfl (fun K hK => ?_) AllReady.nil
    go_simp
    refine hK _ _ ?_
    clear hK K
    refine wpAny_done (by kernel_rfl) ?_ _
    go_wp2
    go_ret
    exact ⟨A1, c1, rfl, g1, g2, g3, b_call (b_drew (Below.refl _ _)) hb⟩
  · go_simp
    refine hK _ _ ?_
    clear hK K
    refine take_at (i := 10) (some 15) (v := ?vg18) rfl rfl (by kernel_rfl) (by kernel_rfl) (by kernel_rfl) (fun _ _ _ h => h) (Or.inl ⟨by rfl, ?hg18⟩) ?rg18
    case hg18 => (intro w0; go_simp; try with_reducible rfl)
    simp only [Act.put, List.setIfInBounds_toArray, List.set_cons_zero, List.set_cons_succ]
    refine take_at (i := 11) (some 16) (v := ?vg19) rfl rfl (by kernel_rfl) (by kernel_rfl) (by kernel_rfl) (fun _ _ _ h => h) (Or.inl ⟨by rfl, ?hg19⟩) ?rg19
    case hg19 => (intro w0; go_simp; try with_reducible rfl)
    simp only [Act.put, List.setIfInBounds_toArray, List.set_cons_zero, List.set_cons_succ]
    refine wpAny_ready (rs := [3]) (by kernel_rfl) (by simp) ?_
    refine AllReady.cons (o := _) rfl (fun K hK => ?_) AllReady.nil
    go_simp
    refine hK _ _ ?_
    clear hK K
    refine take_at (i := 12) (some 17) (v := ?vg21) rfl rfl (by kernel_rfl) (by kernel_rfl) (by kernel_rfl) (fun _ _ _ h => h) (Or.inl ⟨by rfl, ?hg21⟩) ?rg21
    case hg21 => (intro w0; go_simp; try with_reducible rfl)
    simp only [Act.put, List.setIfInBounds_toArray, List.set_cons_zero, List.set_cons_succ]
    refine wpAny_ready (rs := [13]) (by kernel_rfl) (by simp) ?_
    refine AllReady.cons (o := _) rfl (fun K hK => ?_) AllReady.nil
    go_simp
    refine (clone_any A kk c (D.take kk) w.drew RD.out (by omega)).mono ?_
    rintro e w1 ⟨A1, c1, rfl, g1, g2, g3, hb⟩
    refine hK _ _ ?_
    clear hK
    refine wpAny_ready (rs := [14]) (by kernel_rfl) (by simp) ?_
    refine AllReady.cons (o := _) rfl (fun K hK => ?_) AllReady.nil
    go_simp
    refine hK _ _ ?_
    clear hK K
    refine wpAny_done (by kernel_rfl) ?_ _
    go_wp2
    go_ret
    exact ⟨A1, c1, rfl, g1, g2, g3, b_call (b_drew (Below.refl _ _)) hb⟩
theorem run_mk0' {P : Program} {t e : TypeId} {z : Value} {size bytes : Nat} (ht : P.underlying t = some (.slice e)) (h : (P.info? e).map (fun i => (i.zero, i.size, i.bytes)) = some (some z, size, bytes)) (n : Nat) (hb : n * bytes ≤ 281474976710656) (hn : n ≤ 281474976710656) (w : World) :
    (Instr.makeSlice t (.int .i64 0) (.int .i64 (n : Int))).run P w = .ok (.slice (some ⟨w.heap.size, 0, none⟩) 0 n) (w.alloc (.cells (madeCells z.cells (n * size)) e)) := by
  obtain ⟨i, hi, h0, h1, h2⟩ := info_parts h
  have hb' : (i.bytes : Int) * (n : Int) ≤ 281474976710656 := by
    subst h2
    have h : ((n * i.bytes : Nat) : Int) ≤ 281474976710656 := by omega
    rwa [Int.natCast_mul, Int.mul_comm] at h
  have hr := run_make (P := P) w t e i z ht hi h0 .i64 .i64 0 n (by omega) (by omega) hb' (by omega)
  simp only [Int.toNat_natCast, h1] at hr
  exact hr
/-- the bytes of record k lie at its span -/
theorem span_at (recs : List (List Int)) {k : Nat} (h : k < recs.length) : ∃ fr ln, (recs[k]).length = ln ∧ (spansV 0 recs)[k * 2]? = some (.int .i64 ((fr : Nat) : Int)) ∧ (spansV 0 recs)[k * 2 + 1]? = some (.int .i64 ((fr + ln : Nat) : Int)) ∧ ((framesI recs).drop fr).take ln = recs[k] ∧ fr + ln ≤ (framesI recs).length := by
  obtain ⟨h1, h2⟩ := spansV_get 0 recs k h
  have e0 : recs = recs.take k ++ recs[k] :: recs.drop (k + 1) := by rw [← List.drop_eq_getElem_cons h, List.take_append_drop]
  have e1 : framesI recs = (framesI (recs.take k) ++ (varI (recs[k]).length ++ sumB recs[k])) ++ (recs[k] ++ framesI (recs.drop (k + 1))) := by
    conv => lhs; rw [e0, framesI_append, framesI_cons]
    unfold frameI
    simp only [List.append_assoc]
  have e2 : (framesI (recs.take k) ++ (varI (recs[k]).length ++ sumB recs[k])).length = (framesI (recs.take k)).length + varL (recs[k]).length + 8 := by
    rw [List.length_append, List.length_append, varI_len, sumB_len, Nat.add_assoc]
  refine ⟨(framesI (recs.take k)).length + varL (recs[k]).length + 8, (recs[k]).length, rfl, by rw [h1, Nat.zero_add], ?_, ?_, ?_⟩
  · rw [h2, Nat.zero_add]
    unfold frameL
    simp only [Nat.add_assoc]
  · rw [← e2]
    conv => lhs; rw [e1, List.drop_left, List.take_left]
  · have := congrArg List.length e1
    rw [List.length_append, e2, List.length_append] at this
    omega
set_option maxRecDepth 100000 in
set_option maxHeartbeats 2000000 in
theorem records_any (F : Nat → Prop) (g : Nat) (recs : List (List Int)) (m : Nat) (w : World) (h : Lg w F g recs) (hm : recs.length = m) (hD : (framesI recs).length ≤ 1000000000) :
    Calls Try.prog 16 #[.pointer (some ⟨g, 0, none⟩)] w (RetRows w m recs) := by
  have hmD := Nat.le_trans (framesI_ge recs) hD
  obtain ⟨n, A, c, B, d, hn, hc, hcm, V, rdD, rdS⟩ := h.data
  unfold maxLen at hcm
  rw [hm] at V rdS hmD
  have HM := Lib.hid hm
  have HN := Lib.hid hn
  have hnD : n ≤ 1000000000 := by omega
  have hg := V.lt
  have z0 := V.cell 0
  have z1 := V.cell 1
  have HV := Lib.hid V
  have RDD := Lib.hid rdD
  have RDS := Lib.hid rdS
  have hmk := fun W => run_mk0' (P := Try.prog) (z := .slice none 0 0) (size := 1) (bytes := 24) Try.underlying23 (by kernel_rfl) m (by omega) (by omega) W
  clear h hm hn V rdD rdS hD
  go_enter Try.func16, Try.ntmps16
  go_wp2
  refine name_world ?_
  intro w1 hw1
  have hO1 := Lib.hid (show w1.ownsRow w.heap.size 27 1 (.slice (some ⟨w.heap.size, 0, none⟩) 0 m) 0 [] from by
    rw [hw1]
    exact own_shut (Nat.le_refl _) (Vr.new _ _ _) (by simp) (by simp) (by omega) (by unfold maxLen; omega) (by simp [size_madeCells]))
  have hB1 := Lib.hid (show Below w.heap.size w w1 from by rw [hw1]; (repeat (first | (with_reducible exact Below.refl _ _) | (with_reducible assumption) | (with_reducible refine b_drew ?_) | (with_reducible refine b_drewN ?_ _) | (with_reducible refine b_alloc ?_ _) | ((with_reducible refine b_set ?_ ?_ _); rotate_left; (focus (first | omega | (simp; done) | (simp; omega) | (simp at *; omega)))) | (with_reducible refine b_call ?_ (by with_reducible assumption)))))
  clear hw1 hmk
  go_loopw [3, 17] (fun s3 i wr => ∃ (k : Nat) (Ar : Option Addr) (cr : Nat) (vs : List Value), k ≤ m ∧ i = .int .i64 k ∧ s3 = .slice Ar k cr ∧ Hid (wr.ownsRow w.heap.size 27 1 (.slice Ar k cr) k vs) ∧ Hid (Rows wr w.heap.size vs (recs.take k)) ∧ k ≤ cr ∧ cr ≤ maxLen ∧ Hid (Below w.heap.size w wr)) (fun _ i _ => m - (intOf i).toNat)
  case atStart => exact ⟨0, some ⟨w.heap.size, 0, none⟩, m, [], by omega, rfl, rfl, hO1, Lib.hid (Rows.nil _ _), by omega, by unfold maxLen; omega, hB1⟩
  case round =>
    clear hO1 hB1
    obtain ⟨k, Ar, cr, vs, hk, rfl, rfl, HO, HR, hkc, hcr, HB⟩ := hrel
    by_cases hlt : k < m
    · have hlt' : k < recs.length := by rw [HM.out]; exact hlt
      obtain ⟨fr, ln, hln, s1, s2, hx, hfl⟩ := span_at recs hlt'
      rw [HN.out] at hfl
      obtain ⟨bs, os, rfl, hbs, hcs⟩ := (RDS.out.below HB.out (Nat.le_refl _)).2 (by intro e; rw [e] at s1; simp at s1)
      have q1 := hcs _ _ s1
      have q2 := hcs _ _ s2
      rw [← Nat.add_assoc] at q2
      have HTK := Lib.hid (show recs.take (k + 1) = recs.take k ++ [recs[k]] from List.take_succ_eq_append_getElem hlt')
      obtain ⟨x, hxe⟩ : ∃ x, recs[k] = x := ⟨_, rfl⟩
      rw [hxe] at HTK hln hx
      have HLN := Lib.hid hln
      have rd9 := (RDD.out.below HB.out (Nat.le_refl _)).piece (i := fr) (j := fr + ln) (c := c) (by omega) (by omega) (by omega)
      rw [Nat.add_sub_cancel_left, hx] at rd9
      have hsl := fun (W : World) => run_slice_mid slBytes A n c .i64 .i64 (fr : Int) ((fr + ln : Nat) : Int) (by omega) (by omega) (by omega) W
      simp only [Int.toNat_natCast, Nat.add_sub_cancel_left, Nat.mul_one] at hsl
      obtain ⟨A9, hA9⟩ : ∃ a, (if c = fr then A else A.map (·.add fr)) = a := ⟨_, rfl⟩
      rw [hA9] at rd9 hsl
      obtain ⟨c9, hc9⟩ : ∃ a, c - fr = a := ⟨_, rfl⟩
      rw [hc9] at hsl
      obtain ⟨tt, hto⟩ : ∃ t, fr + ln = t := ⟨_, rfl⟩
      have hto1 : fr ≤ tt := by omega
      rw [hto] at hsl q2
      have hsz := HB.out.size
      have R9 := Lib.hid (rd9.more hsz)
      have HW := HV.out.call HB.out
      have z0 := HW.cell 0
      have z1 := HW.cell 1
      have hgw := HW.lt
      clear hcs s1 s2 hx hxe hln rd9 hA9 hc9 hto HW hlt'
      go_upto_region 5 with (fail)
      refine name_world ?_
      intro X hX
      have OX := Lib.hid (show X.ownsRow w.heap.size 27 1 (.slice Ar k cr) k vs from by rw [hX]; exact own_below HO.out (by (repeat (first | (with_reducible exact Below.refl _ _) | (with_reducible assumption) | (with_reducible refine b_drew ?_) | (with_reducible refine b_drewN ?_ _) | (with_reducible refine b_alloc ?_ _) | ((with_reducible refine b_set ?_ ?_ _); rotate_left; (focus (first | omega | (simp; done) | (simp; omega) | (simp at *; omega)))) | (with_reducible refine b_call ?_ (by with_reducible assumption))))))
      have WX := Lib.hid (show Rows X w.heap.size vs (recs.take k) from by rw [hX]; exact HR.out.below (by (repeat (first | (with_reducible exact Below.refl _ _) | (with_reducible assumption) | (with_reducible refine b_drew ?_) | (with_reducible refine b_drewN ?_ _) | (with_reducible refine b_alloc ?_ _) | ((with_reducible refine b_set ?_ ?_ _); rotate_left; (focus (first | omega | (simp; done) | (simp; omega) | (simp at *; omega)))) | (with_reducible refine b_call ?_ (by with_reducible assumption))))))
      have BX := Lib.hid (show Below w.heap.size w X from b_call HB.out (by rw [hX]; (repeat (first | (with_reducible exact Below.refl _ _) | (with_reducible assumption) | (with_reducible refine b_drew ?_) | (with_reducible refine b_drewN ?_ _) | (with_reducible refine b_alloc ?_ _) | ((with_reducible refine b_set ?_ ?_ _); rotate_left; (focus (first | omega | (simp; done) | (simp; omega) | (simp at *; omega)))) | (with_reducible refine b_call ?_ (by with_reducible assumption))))))
      have RX := Lib.hid (show Rd X X.heap.size 1 A9 ln (x.map (Value.int .u8)) from by rw [hX]; exact rd_step R9.out (by (repeat (first | (with_reducible exact Below.refl _ _) | (with_reducible assumption) | (with_reducible refine b_drew ?_) | (with_reducible refine b_drewN ?_ _) | (with_reducible refine b_alloc ?_ _) | ((with_reducible refine b_set ?_ ?_ _); rotate_left; (focus (first | omega | (simp; done) | (simp; omega) | (simp at *; omega)))) | (with_reducible refine b_call ?_ (by with_reducible assumption))))))
      have VX := HV.out.call BX.out
      have VB := show Vr X wr.heap.size 58 #[.int .i64 (fr : Int), .int .i64 (tt : Int)] from by rw [hX]; exact Vr.new _ _ _
      have y0 := VX.cell 0
      have y1 := VB.cell 0
      have y2 := VB.cell 1
      have y3 := VX.lt
      have y4 := VB.lt
      clear hX VX VB z0 z1 q1 q2 hbs
      refine wp_region_any (by kernel_rfl) ?_
      change wpAny _ _ _ _ _ _ _ (World.drew _)
      refine take_at (i := 0) (some 21) (v := ?vg27) rfl rfl (by kernel_rfl) (by kernel_rfl) (by kernel_rfl) (fun _ _ _ h => h) (Or.inl ⟨by rfl, ?hg27⟩) ?rg27
      case hg27 => (intro w0; go_simp; try with_reducible rfl)
      simp only [Act.put, List.setIfInBounds_toArray, List.set_cons_zero, List.set_cons_succ]
      refine take_at (i := 1) (some 22) (v := ?vg28) rfl rfl (by kernel_rfl) (by kernel_rfl) (by kernel_rfl) (fun _ _ _ h => h) (Or.inl ⟨by rfl, ?hg28⟩) ?rg28
      case hg28 => (intro w0; go_simp; try with_reducible rfl)
      simp only [Act.put, List.setIfInBounds_toArray, List.set_cons_zero, List.set_cons_succ]
      refine take_at (i := 2) (some 23) (v := ?vg29) rfl rfl (by kernel_rfl) (by kernel_rfl) (by kernel_rfl) (fun _ _ _ h => h) (Or.inl ⟨by rfl, ?hg29⟩) ?rg29
      case hg29 => (intro w0; go_simp; try with_reducible rfl)
      simp only [Act.put, List.setIfInBounds_toArray, List.set_cons_zero, List.set_cons_succ]
      refine take_at (i := 3) (some 24) (v := ?vg30) rfl rfl (by kernel_rfl) (by kernel_rfl) (by kernel_rfl) (fun _ _ _ h => h) (Or.inl ⟨by rfl, ?hg30⟩) ?rg30
      case hg30 => (intro w0; go_simp; try with_reducible rfl)
      simp only [Act.put, List.setIfInBounds_toArray, List.set_cons_zero, List.set_cons_succ]
      refine take_at (i := 5) (some 26) (v := ?vg31) rfl rfl (by kernel_rfl) (by kernel_rfl) (by kernel_rfl) (fun _ _ _ h => h) (Or.inl ⟨by rfl, ?hg31⟩) ?rg31
      case hg31 => (intro w0; go_simp; try with_reducible rfl)
      simp only [Act.put, List.setIfInBounds_toArray, List.set_cons_zero, List.set_cons_succ]
      refine take_at (i := 7) (some 28) (v := ?vg32) rfl rfl (by kernel_rfl) (by kernel_rfl) (by kernel_rfl) (fun _ _ _ h => h) (Or.inl ⟨by rfl, ?hg32⟩) ?rg32
      case hg32 => (intro w0; go_simp; try with_reducible rfl)
      simp only [Act.put, List.setIfInBounds_toArray, List.set_cons_zero, List.set_cons_succ]
      refine wpAny_ready (rs := [4, 6, 8]) (by kernel_rfl) (by simp) ?_
      refine AllReady.cons (o := _) rfl (fun K hK => ?_) (AllReady.cons (o := _) rfl (fun K hK => ?_) (AllReady.cons (o := _) rfl (fun K hK => ?_) AllReady.nil))
      · go_simp
        refine hK _ _ ?_
        clear hK K
        refine wpAny_ready (rs := [6, 8]) (by kernel_rfl) (by simp) ?_
        refine AllReady.cons (o := _) rfl (fun K hK => ?_) (AllReady.cons (o := _) rfl (fun K hK => ?_) AllReady.nil)
        · go_simp
          refine hK _ _ ?_
          clear hK K
          refine wpAny_ready (rs := [8]) (by kernel_rfl) (by simp) ?_
          refine AllReady.cons (o := _) rfl (fun K hK => ?_) AllReady.nil
          · go_simp
            refine hK _ _ ?_
            clear hK K
            refine take_at (i := 9) (some 30) (v := ?vg33) rfl rfl (by kernel_rfl) (by kernel_rfl) (by kernel_rfl) (fun _ _ _ h => h) (Or.inl ⟨by rfl, ?hg33⟩) ?rg33
            case hg33 => (intro w0; go_simp; try with_reducible rfl)
            simp only [Act.put, List.setIfInBounds_toArray, List.set_cons_zero, List.set_cons_succ]
            refine wpAny_ready (rs := [10]) (by kernel_rfl) (by simp) ?_
            refine AllReady.cons (o := _) rfl (fun K hK => ?_) AllReady.nil
            go_simp
            refine (clone_any A9 ln c9 x X.drew (Rd.drew RX.out) (by omega)).mono ?_
            rintro e w1 ⟨A1, c1, rfl, h1, h2, h3, hb0⟩
            have hb : Below X.heap.size X w1 := b_call (b_drew (Below.refl _ _)) hb0
            clear hb0
            refine hK _ _ ?_
            clear hK
            refine wpAny_ready (rs := [11]) (by kernel_rfl) (by simp) ?_
            refine AllReady.cons (o := _) rfl (fun K hK => ?_) AllReady.nil
            go_simp
            refine hK _ _ ?_
            clear hK K
            refine wpAny_ready (rs := [12]) (by kernel_rfl) (by simp) ?_
            refine AllReady.cons (o := _) rfl (fun K hK => ?_) AllReady.nil
            refine step_app2 _ 33 rfl rfl (.tmp 21) (.tmp 32) slRows rfl (v := .slice Ar k cr) rfl (own_below (own_below OX.out hb) (b_alloc (Below.refl _ _) _)) rfl (rd_lit w1 _ _ rfl rfl) (by intro u' hu'; simp at hu'; subst hu'; rfl) (k + 1) rfl (by unfold maxLen; omega) (by omega) (by have := hb.size; have := BX.out.size; simp; omega) ?_
            intro A3 c3 w3 g1 g2 g3 g4 g5
            refine hK _ _ ?_
            clear hK K
            simp only [Act.put, List.setIfInBounds_toArray, List.set_cons_zero, List.set_cons_succ]
            refine wpAny_ready (rs := [13]) (by kernel_rfl) (by simp) ?_
            refine AllReady.cons (o := _) rfl (fun K hK => ?_) AllReady.nil
            go_simp
            refine hK _ _ ?_
            clear hK K
            refine wpAny_done (by kernel_rfl) ?_ _
            have hRw := ((WX.out.below hb).below (b_alloc (Below.refl _ _) _)).grown (own_below (own_below OX.out hb) (b_alloc (Below.refl _ _) _)) g4
            have hr1 : RowAt w3 w.heap.size (.slice A1 ln c1) x := ((RowAt.mono ⟨A1, c1, by rw [HLN.out], by rw [HLN.out]; exact h1, h2, by rw [HLN.out]; exact own_below h3 (b_alloc (Below.refl _ _) _)⟩ BX.out.size).grown (own_below (own_below OX.out hb) (b_alloc (Below.refl _ _) _)) g4)
            have hBf := below_app (b_alloc (b_call BX.out hb) _) (own_below (own_below OX.out hb) (b_alloc (Below.refl _ _) _)) g4 (Nat.le_refl _) (by have := hb.size; have := BX.out.size; simp; omega)
            have HRw := Lib.hid (hRw.snoc hr1)
            have HOw := Lib.hid g3
            have HBf := Lib.hid hBf
            clear hRw hr1 hBf g3 g4 g5 h1 h2 h3 hb
            go_wp2
            go_roundw
            case rel => exact ⟨k + 1, A3, c3, _, by omega, by go_num, rfl, HOw, by rw [HTK.out]; exact HRw, g1, g2, HBf⟩
            case measure => simp [intOf]; omega
        · go_simp
          refine hK _ _ ?_
          clear hK K
          refine wpAny_ready (rs := [6]) (by kernel_rfl) (by simp) ?_
          refine AllReady.cons (o := _) rfl (fun K hK => ?_) AllReady.nil
          · go_simp
            refine hK _ _ ?_
            clear hK K
            refine take_at (i := 9) (some 30) (v := ?vg41) rfl rfl (by kernel_rfl) (by kernel_rfl) (by kernel_rfl) (fun _ _ _ h => h) (Or.inl ⟨by rfl, ?hg41⟩) ?rg41
            case hg41 => (intro w0; go_simp; try with_reducible rfl)
            simp only [Act.put, List.setIfInBounds_toArray, List.set_cons_zero, List.set_cons_succ]
            refine wpAny_ready (rs := [10]) (by kernel_rfl) (by simp) ?_
            refine AllReady.cons (o := _) rfl (fun K hK => ?_) AllReady.nil
            go_simp
            refine (clone_any A9 ln c9 x X.drew (Rd.drew RX.out) (by omega)).mono ?_
            rintro e w1 ⟨A1, c1, rfl, h1, h2, h3, hb0⟩
            have hb : Below X.heap.size X w1 := b_call (b_drew (Below.refl _ _)) hb0
            clear hb0
            refine hK _ _ ?_
            clear hK
            refine wpAny_ready (rs := [11]) (by kernel_rfl) (by simp) ?_
            refine AllReady.cons (o := _) rfl (fun K hK => ?_) AllReady.nil
            go_simp
            refine hK _ _ ?_
            clear hK K
            refine wpAny_ready (rs := [12]) (by kernel_rfl) (by simp) ?_
            refine AllReady.cons (o := _) rfl (fun K hK => ?_) AllReady.nil
            refine step_app2 _ 33 rfl rfl (.tmp 21) (.tmp 32) slRows rfl (v := .slice Ar k cr) rfl (own_below (own_below OX.out hb) (b_alloc (Below.refl _ _) _)) rfl (rd_lit w1 _ _ rfl rfl) (by intro u' hu'; simp at hu'; subst hu'; rfl) (k + 1) rfl (by unfold maxLen; omega) (by omega) (by have := hb.size; have := BX.out.size; simp; omega) ?_
            intro A3 c3 w3 g1 g2 g3 g4 g5
            refine hK _ _ ?_
            clear hK K
            simp only [Act.put, List.setIfInBounds_toArray, List.set_cons_zero, List.set_cons_succ]
            refine wpAny_ready (rs := [13]) (by kernel_rfl) (by simp) ?_
            refine AllReady.cons (o := _) rfl (fun K hK => ?_) AllReady.nil
            go_simp
            refine hK _ _ ?_
            clear hK K
            refine wpAny_done (by kernel_rfl) ?_ _
            have hRw := ((WX.out.below hb).below (b_alloc (Below.refl _ _) _)).grown (own_below (own_below OX.out hb) (b_alloc (Below.refl _ _) _)) g4
            have hr1 : RowAt w3 w.heap.size (.slice A1 ln c1) x := ((RowAt.mono ⟨A1, c1, by rw [HLN.out], by rw [HLN.out]; exact h1, h2, by rw [HLN.out]; exact own_below h3 (b_alloc (Below.refl _ _) _)⟩ BX.out.size).grown (own_below (own_below OX.out hb) (b_alloc (Below.refl _ _) _)) g4)
            have hBf := below_app (b_alloc (b_call BX.out hb) _) (own_below (own_below OX.out hb) (b_alloc (Below.refl _ _) _)) g4 (Nat.le_refl _) (by have := hb.size; have := BX.out.size; simp; omega)
            have HRw := Lib.hid (hRw.snoc hr1)
            have HOw := Lib.hid g3
            have HBf := Lib.hid hBf
            clear hRw hr1 hBf g3 g4 g5 h1 h2 h3 hb
            go_wp2
            go_roundw
            case rel => exact ⟨k + 1, A3, c3, _, by omega, by go_num, rfl, HOw, by rw [HTK.out]; exact HRw, g1, g2, HBf⟩
            case measure => simp [intOf]; omega
      · go_simp
        refine hK _ _ ?_
        clear hK K
        refine wpAny_ready (rs := [4, 8]) (by kernel_rfl) (by simp) ?_
        refine AllReady.cons (o := _) rfl (fun K hK => ?_) (AllReady.cons (o := _) rfl (fun K hK => ?_) AllReady.nil)
        · go_simp
          refine hK _ _ ?_
          clear hK K
          refine wpAny_ready (rs := [8]) (by kernel_rfl) (by simp) ?_
          refine AllReady.cons (o := _) rfl (fun K hK => ?_) AllReady.nil
          · go_simp
            refine hK _ _ ?_
            clear hK K
            refine take_at (i := 9) (some 30) (v := ?vg49) rfl rfl (by kernel_rfl) (by kernel_rfl) (by kernel_rfl) (fun _ _ _ h => h) (Or.inl ⟨by rfl, ?hg49⟩) ?rg49
            case hg49 => (intro w0; go_simp; try with_reducible rfl)
            simp only [Act.put, List.setIfInBounds_toArray, List.set_cons_zero, List.set_cons_succ]
            refine wpAny_ready (rs := [10]) (by kernel_rfl) (by simp) ?_
            refine AllReady.cons (o := _) rfl (fun K hK => ?_) AllReady.nil
            go_simp
            refine (clone_any A9 ln c9 x X.drew (Rd.drew RX.out) (by omega)).mono ?_
            rintro e w1 ⟨A1, c1, rfl, h1, h2, h3, hb0⟩
            have hb : Below X.heap.size X w1 := b_call (b_drew (Below.refl _ _)) hb0
            clear hb0
            refine hK _ _ ?_
            clear hK
            refine wpAny_ready (rs := [11]) (by kernel_rfl) (by simp) ?_
            refine AllReady.cons (o := _) rfl (fun K hK => ?_) AllReady.nil
            go_simp
            refine hK _ _ ?_
            clear hK K
            refine wpAny_ready (rs := [12]) (by kernel_rfl) (by simp) ?_
            refine AllReady.cons (o := _) rfl (fun K hK => ?_) AllReady.nil
            refine step_app2 _ 33 rfl rfl (.tmp 21) (.tmp 32) slRows rfl (v := .slice Ar k cr) rfl (own_below (own_below OX.out hb) (b_alloc (Below.refl _ _) _)) rfl (rd_lit w1 _ _ rfl rfl) (by intro u' hu'; simp at hu'; subst hu'; rfl) (k + 1) rfl (by unfold maxLen; omega) (by omega) (by have := hb.size; have := BX.out.size; simp; omega) ?_
            intro A3 c3 w3 g1 g2 g3 g4 g5
            refine hK _ _ ?_
            clear hK K
            simp only [Act.put, List.setIfInBounds_toArray, List.set_cons_zero, List.set_cons_succ]
            refine wpAny_ready (rs := [13]) (by kernel_rfl) (by simp) ?_
            refine AllReady.cons (o := _) rfl (fun K hK => ?_) AllReady.nil
            go_simp
            refine hK _ _ ?_
            clear hK K
            refine wpAny_done (by kernel_rfl) ?_ _
            have hRw := ((WX.out.below hb).below (b_alloc (Below.refl _ _) _)).grown (own_below (own_below OX.out hb) (b_alloc (Below.refl _ _) _)) g4
            have hr1 : RowAt w3 w.heap.size (.slice A1 ln c1) x := ((RowAt.mono ⟨A1, c1, by rw [HLN.out], by rw [HLN.out]; exact h1, h2, by rw [HLN.out]; exact own_below h3 (b_alloc (Below.refl _ _) _)⟩ BX.out.size).grown (own_below (own_below OX.out hb) (b_alloc (Below.refl _ _) _)) g4)
            have hBf := below_app (b_alloc (b_call BX.out hb) _) (own_below (own_below OX.out hb) (b_alloc (Below.refl _ _) _)) g4 (Nat.le_refl _) (by have := hb.size; have := BX.out.size; simp; omega)
            have HRw := Lib.hid (hRw.snoc hr1)
            have HOw := Lib.hid g3
            have HBf := Lib.hid hBf
            clear hRw hr1 hBf g3 g4 g5 h1 h2 h3 hb
            go_wp2
            go_roundw
            case rel => exact ⟨k + 1, A3, c3, _, by omega, by go_num, rfl, HOw, by rw [HTK.out]; exact HRw, g1, g2, HBf⟩
            case measure => simp [intOf]; omega
        · go_simp
          refine hK _ _ ?_
          clear hK K
          refine wpAny_ready (rs := [4]) (by kernel_rfl) (by simp) ?_
          refine AllReady.cons (o := _) rfl (fun K hK => ?_) AllReady.nil
          · go_simp
            refine hK _ _ ?_
            clear hK K
            refine take_at (i := 9) (some 30) (v := ?vg57) rfl rfl (by kernel_rfl) (by kernel_rfl) (by kernel_rfl) (fun _ _ _ h => h) (Or.inl ⟨by rfl, ?hg57⟩) ?rg57
            case hg57 => (intro w0; go_simp; try with_reducible rfl)
            simp only [Act.put, List.setIfInBounds_toArray, List.set_cons_zero, List.set_cons_succ]
            refine wpAny_ready (rs := [10]) (by kernel_rfl) (by simp) ?_
            refine AllReady.cons (o := _) rfl (fun K hK => ?_) AllReady.nil
            go_simp
            refine (clone_any A9 ln c9 x X.drew (Rd.drew RX.out) (by omega)).mono ?_
            rintro e w1 ⟨A1, c1, rfl, h1, h2, h3, hb0⟩
            have hb : Below X.heap.size X w1 := b_call (b_drew (Below.refl _ _)) hb0
            clear hb0
            refine hK _ _ ?_
            clear hK
            refine wpAny_ready (rs := [11]) (by kernel_rfl) (by simp) ?_
            refine AllReady.cons (o := _) rfl (fun K hK => ?_) AllReady.nil
            go_simp
            refine hK _ _ ?_
            clear hK K
            refine wpAny_ready (rs := [12]) (by kernel_rfl) (by simp) ?_
            refine AllReady.cons (o := _) rfl (fun K hK => ?_) AllReady.nil
            refine step_app2 _ 33 rfl rfl (.tmp 21) (.tmp 32) slRows rfl (v := .slice Ar k cr) rfl (own_below (own_below OX.out hb) (b_alloc (Below.refl _ _) _)) rfl (rd_lit w1 _ _ rfl rfl) (by intro u' hu'; simp at hu'; subst hu'; rfl) (k + 1) rfl (by unfold maxLen; omega) (by omega) (by have := hb.size; have := BX.out.size; simp; omega) ?_
            intro A3 c3 w3 g1 g2 g3 g4 g5
            refine hK _ _ ?_
            clear hK K
            simp only [Act.put, List.setIfInBounds_toArray, List.set_cons_zero, List.set_cons_succ]
            refine wpAny_ready (rs := [13]) (by kernel_rfl) (by simp) ?_
            refine AllReady.cons (o := _) rfl (fun K hK => ?_) AllReady.nil
            go_simp
            refine hK _ _ ?_
            clear hK K
            refine wpAny_done (by kernel_rfl) ?_ _
            have hRw := ((WX.out.below hb).below (b_alloc (Below.refl _ _) _)).grown (own_below (own_below OX.out hb) (b_alloc (Below.refl _ _) _)) g4
            have hr1 : RowAt w3 w.heap.size (.slice A1 ln c1) x := ((RowAt.mono ⟨A1, c1, by rw [HLN.out], by rw [HLN.out]; exact h1, h2, by rw [HLN.out]; exact own_below h3 (b_alloc (Below.refl _ _) _)⟩ BX.out.size).grown (own_below (own_below OX.out hb) (b_alloc (Below.refl _ _) _)) g4)
            have hBf := below_app (b_alloc (b_call BX.out hb) _) (own_below (own_below OX.out hb) (b_alloc (Below.refl _ _) _)) g4 (Nat.le_refl _) (by have := hb.size; have := BX.out.size; simp; omega)
            have HRw := Lib.hid (hRw.snoc hr1)
            have HOw := Lib.hid g3
            have HBf := Lib.hid hBf
            clear hRw hr1 hBf g3 g4 g5 h1 h2 h3 hb
            go_wp2
            go_roundw
            case rel => exact ⟨k + 1, A3, c3, _, by omega, by go_num, rfl, HOw, by rw [HTK.out]; exact HRw, g1, g2, HBf⟩
            case measure => simp [intOf]; omega
      · go_simp
        refine hK _ _ ?_
        clear hK K
        refine wpAny_ready (rs := [4, 6]) (by kernel_rfl) (by simp) ?_
        refine AllReady.cons (o := _) rfl (fun K hK => ?_) (AllReady.cons (o := _) rfl (fun K hK => ?_) AllReady.nil)
        · go_simp
          refine hK _ _ ?_
          clear hK K
          refine wpAny_ready (rs := [6]) (by kernel_rfl) (by simp) ?_
          refine AllReady.cons (o := _) rfl (fun K hK => ?_) AllReady.nil
          · go_simp
            refine hK _ _ ?_
            clear hK K
            refine take_at (i := 9) (some 30) (v := ?vg65) rfl rfl (by kernel_rfl) (by kernel_rfl) (by kernel_rfl) (fun _ _ _ h => h) (Or.inl ⟨by rfl, ?hg65⟩) ?rg65
            case hg65 => (intro w0; go_simp; try with_reducible rfl)
            simp only [Act.put, List.setIfInBounds_toArray, List.set_cons_zero, List.set_cons_succ]
            refine wpAny_ready (rs := [10]) (by kernel_rfl) (by simp) ?_
            refine AllReady.cons (o := _) rfl (fun K hK => ?_) AllReady.nil
            go_simp
            refine (clone_any A9 ln c9 x X.drew (Rd.drew RX.out) (by omega)).mono ?_
            rintro e w1 ⟨A1, c1, rfl, h1, h2, h3, hb0⟩
            have hb : Below X.heap.size X w1 := b_call (b_drew (Below.refl _ _)) hb0
            clear hb0
            refine hK _ _ ?_
            clear hK
            refine wpAny_ready (rs := [11]) (by kernel_rfl) (by simp) ?_
            refine AllReady.cons (o := _) rfl (fun K hK => ?_) AllReady.nil
            go_simp
            refine hK _ _ ?_
            clear hK K
            refine wpAny_ready (rs := [12]) (by kernel_rfl) (by simp) ?_
            refine AllReady.cons (o := _) rfl (fun K hK => ?_) AllReady.nil
            refine step_app2 _ 33 rfl rfl (.tmp 21) (.tmp 32) slRows rfl (v := .slice Ar k cr) rfl (own_below (own_below OX.out hb) (b_alloc (Below.refl _ _) _)) rfl (rd_lit w1 _ _ rfl rfl) (by intro u' hu'; simp at hu'; subst hu'; rfl) (k + 1) rfl (by unfold maxLen; omega) (by omega) (by have := hb.size; have := BX.out.size; simp; omega) ?_
            intro A3 c3 w3 g1 g2 g3 g4 g5
            refine hK _ _ ?_
            clear hK K
            simp only [Act.put, List.setIfInBounds_toArray, List.set_cons_zero, List.set_cons_succ]
            refine wpAny_ready (rs := [13]) (by kernel_rfl) (by simp) ?_
            refine AllReady.cons (o := _) rfl (fun K hK => ?_) AllReady.nil
            go_simp
            refine hK _ _ ?_
            clear hK K
            refine wpAny_done (by kernel_rfl) ?_ _
            have hRw := ((WX.out.below hb).below (b_alloc (Below.refl _ _) _)).grown (own_below (own_below OX.out hb) (b_alloc (Below.refl _ _) _)) g4
            have hr1 : RowAt w3 w.heap.size (.slice A1 ln c1) x := ((RowAt.mono ⟨A1, c1, by rw [HLN.out], by rw [HLN.out]; exact h1, h2, by rw [HLN.out]; exact own_below h3 (b_alloc (Below.refl _ _) _)⟩ BX.out.size).grown (own_below (own_below OX.out hb) (b_alloc (Below.refl _ _) _)) g4)
            have hBf := below_app (b_alloc (b_call BX.out hb) _) (own_below (own_below OX.out hb) (b_alloc (Below.refl _ _) _)) g4 (Nat.le_refl _) (by have := hb.size; have := BX.out.size; simp; omega)
            have HRw := Lib.hid (hRw.snoc hr1)
            have HOw := Lib.hid g3
            have HBf := Lib.hid hBf
            clear hRw hr1 hBf g3 g4 g5 h1 h2 h3 hb
            go_wp2
            go_roundw
            case rel => exact ⟨k + 1, A3, c3, _, by omega, by go_num, rfl, HOw, by rw [HTK.out]; exact HRw, g1, g2, HBf⟩
            case measure => simp [intOf]; omega
        · go_simp
          refine hK _ _ ?_
          clear hK K
          refine wpAny_ready (rs := [4]) (by kernel_rfl) (by simp) ?_
          refine AllReady.cons (o := _) rfl (fun K hK => ?_) AllReady.nil
          · go_simp
            refine hK _ _ ?_
            clear hK K
            refine take_at (i := 9) (some 30) (v := ?vg73) rfl rfl (by kernel_rfl) (by kernel_rfl) (by kernel_rfl) (fun _ _ _ h => h) (Or.inl ⟨by rfl, ?hg73⟩) ?rg73
            case hg73 => (intro w0; go_simp; try with_reducible rfl)
            simp only [Act.put, List.setIfInBounds_toArray, List.set_cons_zero, List.set_cons_succ]
            refine wpAny_ready (rs := [10]) (by kernel_rfl) (by simp) ?_
            refine AllReady.cons (o := _) rfl (fun K hK => ?_) AllReady.nil
            go_simp
            refine (clone_any A9 ln c9 x X.drew (Rd.drew RX.out) (by omega)).mono ?_
            rintro e w1 ⟨A1, c1, rfl, h1, h2, h3, hb0⟩
            have hb : Below X.heap.size X w1 := b_call (b_drew (Below.refl _ _)) hb0
            clear hb0
            refine hK _ _ ?_
            clear hK
            refine wpAny_ready (rs := [11]) (by kernel_rfl) (by simp) ?_
            refine AllReady.cons (o := _) rfl (fun K hK => ?_) AllReady.nil
            go_simp
            refine hK _ _ ?_
            clear hK K
            refine wpAny_ready (rs := [12]) (by kernel_rfl) (by simp) ?_
            refine AllReady.cons (o := _) rfl (fun K hK => ?_) AllReady.nil
            refine step_app2 _ 33 rfl rfl (.tmp 21) (.tmp 32) slRows rfl (v := .slice Ar k cr) rfl (own_below (own_below OX.out hb) (b_alloc (Below.refl _ _) _)) rfl (rd_lit w1 _ _ rfl rfl) (by intro u' hu'; simp at hu'; subst hu'; rfl) (k + 1) rfl (by unfold maxLen; omega) (by omega) (by have := hb.size; have := BX.out.size; simp; omega) ?_
            intro A3 c3 w3 g1 g2 g3 g4 g5
            refine hK _ _ ?_
            clear hK K
            simp only [Act.put, List.setIfInBounds_toArray, List.set_cons_zero, List.set_cons_succ]
            refine wpAny_ready (rs := [13]) (by kernel_rfl) (by simp) ?_
            refine AllReady.cons (o := _) rfl (fun K hK => ?_) AllReady.nil
            go_simp
            refine hK _ _ ?_
            clear hK K
            refine wpAny_done (by kernel_rfl) ?_ _
            have hRw := ((WX.out.below hb).below (b_alloc (Below.refl _ _) _)).grown (own_below (own_below OX.out hb) (b_alloc (Below.refl _ _) _)) g4
            have hr1 : RowAt w3 w.heap.size (.slice A1 ln c1) x := ((RowAt.mono ⟨A1, c1, by rw [HLN.out], by rw [HLN.out]; exact h1, h2, by rw [HLN.out]; exact own_below h3 (b_alloc (Below.refl _ _) _)⟩ BX.out.size).grown (own_below (own_below OX.out hb) (b_alloc (Below.refl _ _) _)) g4)
            have hBf := below_app (b_alloc (b_call BX.out hb) _) (own_below (own_below OX.out hb) (b_alloc (Below.refl _ _) _)) g4 (Nat.le_refl _) (by have := hb.size; have := BX.out.size; simp; omega)
            have HRw := Lib.hid (hRw.snoc hr1)
            have HOw := Lib.hid g3
            have HBf := Lib.hid hBf
            clear hRw hr1 hBf g3 g4 g5 h1 h2 h3 hb
            go_wp2
            go_roundw
            case rel => exact ⟨k + 1, A3, c3, _, by omega, by go_num, rfl, HOw, by rw [HTK.out]; exact HRw, g1, g2, HBf⟩
            case measure => simp [intOf]; omega
    · obtain rfl : m = k := by omega
      have HT := Lib.hid (show recs.take m = recs from List.take_of_length_le (by rw [HM.out]; omega))
      rw [HT.out] at HR
      go_wp2
      go_ret
      exact ⟨Ar, cr, vs, rfl, hkc, hcr, HO.out, HR.out, HB.out⟩
end Go.Proofs.Ytmoajnekegbncaa
