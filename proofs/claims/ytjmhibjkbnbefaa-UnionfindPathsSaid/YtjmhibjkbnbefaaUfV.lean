/-
  WHAT IS PROVED HERE: the walk of the law UnionfindPaths: it returns true at every input, and leaves old memory as it was. Conditions: the arguments' lengths are a machine's.
-/
import Derived.Test.YtjmhibjkbnbefaaUfT
namespace Go.Proofs.Ytjmhibjkbnbefaa
set_option linter.unusedVariables false
open Go.ChangeShapes Go.WideShapes Go.ChangeAt Go.RowKit

theorem in_nat {K : Nat} {a : Int} (h : inR K a = true) : ((a.toNat : Nat) : Int) = a := by
  have : 0 ≤ a ∧ a < K := by simpa [inR] using h
  omega
theorem nodup_sub_len {R M : List Nat} (h : R.Nodup) (hs : ∀ x ∈ R, x ∈ M) : R.length ≤ M.length := by
  induction R generalizing M with
  | nil => simp
  | cons x R ih =>
    obtain ⟨h1, h2⟩ := List.nodup_cons.1 h
    have hx : x ∈ M := hs x (by simp)
    have h3 := ih (M := M.erase x) h2 (fun y hy => (List.mem_erase_of_ne (by rintro rfl; exact h1 hy)).2 (hs y (by simp [hy])))
    rw [List.length_erase_of_mem hx] at h3
    have := List.length_pos_of_mem hx
    simp
    omega
theorem ints_at' (l : List Nat) {j : Nat} (hj : j < l.length) : (intsI l).getD j 0 = ((l.getD j 0 : Nat) : Int) := by
  simp [intsI, List.getD_eq_getElem?_getD, hj]
/-- All neighbours of u along E, within range, are in R. -/
def Closed (E : List (Int × Int)) (K : Nat) (R : List Nat) (u : Nat) : Prop := ∀ v : Nat, v < K → (((u : Int), (v : Int)) ∈ E ∨ ((v : Int), (u : Int)) ∈ E) → v ∈ R
/-- What the search holds. -/
structure PInv (E : List (Int × Int)) (K : Nat) (F : Nat → Nat) (st : Nat) (R : List Nat) (i j t : Nat) : Prop where
  nodup : R.Nodup
  lt : ∀ r ∈ R, r < K
  comp : ∀ r ∈ R, F r = F st
  start : st ∈ R
  cl : ∀ q, q < i → Closed E K R (R.getD q 0)
  cj : Closed (E.take j) K R (R.getD i 0)
  ct : 1 ≤ t → ∀ e, E[j]? = some e → e.1 = ((R.getD i 0 : Nat) : Int) → ∀ v : Nat, v < K → e.2 = (v : Int) → v ∈ R
section
variable {E : List (Int × Int)} {K : Nat} {F : Nat → Nat} {st : Nat} {R : List Nat} {i j t : Nat}
theorem PInv.len (h : PInv E K F st R i j t) : R.length ≤ K := by
  have := nodup_sub_len h.nodup (M := List.range K) (fun x hx => by simpa using h.lt x hx)
  simpa using this
theorem PInv.init (h : st < K) : PInv E K F st [st] 0 0 0 :=
  ⟨by simp, by simpa using h, by simp, by simp, fun q hq => by omega, fun v _ hv => by simp at hv, fun h => by omega⟩
theorem PInv.add (h : PInv E K F st R i j t) (hi : i < R.length) {x : Nat} (hx : x < K) (hn : ¬ x ∈ R) (hF : F x = F st) : PInv E K F st (R ++ [x]) i j t := by
  have hg : ∀ q, q ≤ i → (R ++ [x]).getD q 0 = R.getD q 0 := fun q hq => by
    simp only [List.getD_eq_getElem?_getD]
    rw [List.getElem?_append_left (by omega)]
  refine ⟨?_, ?_, ?_, by simp [h.start], ?_, ?_, ?_⟩
  · rw [List.nodup_append]
    refine ⟨h.nodup, by simp, fun a ha b hb => ?_⟩
    simp at hb
    subst hb
    rintro rfl
    exact hn ha
  · intro r hr
    rcases List.mem_append.1 hr with h1 | h1
    · exact h.lt r h1
    · simp at h1; omega
  · intro r hr
    rcases List.mem_append.1 hr with h1 | h1
    · exact h.comp r h1
    · simp at h1; rw [h1]; exact hF
  · intro q hq v hv he
    rw [hg q (by omega)] at he
    exact List.mem_append_left _ (h.cl q hq v hv he)
  · intro v hv he
    rw [hg i (Nat.le_refl _)] at he
    exact List.mem_append_left _ (h.cj v hv he)
  · intro ht e he h1 v hv h2
    rw [hg i (Nat.le_refl _)] at h1
    exact List.mem_append_left _ (h.ct ht e he h1 v hv h2)
theorem PInv.end0 (h : PInv E K F st R i j 0) {a b : Int} (he : E[j]? = some (a, b)) (hd : a = ((R.getD i 0 : Nat) : Int) → ∀ v : Nat, v < K → b = (v : Int) → v ∈ R) : PInv E K F st R i j 1 :=
  ⟨h.nodup, h.lt, h.comp, h.start, h.cl, h.cj, fun _ e he' h1 v hv h2 => by
    rw [he] at he'
    injection he' with he'
    subst he'
    exact hd h1 v hv h2⟩
theorem PInv.end1 (h : PInv E K F st R i j 1) {a b : Int} (he : E[j]? = some (a, b)) (hd : b = ((R.getD i 0 : Nat) : Int) → ∀ v : Nat, v < K → a = (v : Int) → v ∈ R) : PInv E K F st R i (j + 1) 0 := by
  have hj : j < E.length := by
    rcases Nat.lt_or_ge j E.length with h1 | h1
    · exact h1
    · rw [List.getElem?_eq_none h1] at he; cases he
  have hej : E[j] = (a, b) := by
    rw [List.getElem?_eq_getElem hj] at he
    injection he
  refine ⟨h.nodup, h.lt, h.comp, h.start, h.cl, fun v hv hv2 => ?_, fun h => by omega⟩
  rw [List.take_succ_eq_append_getElem hj, hej] at hv2
  rcases hv2 with h1 | h1
  · rcases List.mem_append.1 h1 with h2 | h2
    · exact h.cj v hv (.inl h2)
    · simp at h2
      exact h.ct (Nat.le_refl _) _ he h2.1.symm v hv h2.2.symm
  · rcases List.mem_append.1 h1 with h2 | h2
    · exact h.cj v hv (.inr h2)
    · simp at h2
      exact hd h2.2.symm v hv h2.1.symm
theorem PInv.next (h : PInv E K F st R i E.length 0) : PInv E K F st R (i + 1) 0 0 := by
  refine ⟨h.nodup, h.lt, h.comp, h.start, fun q hq => ?_, fun v _ hv => by simp at hv, fun h => by omega⟩
  rcases Nat.lt_or_ge q i with h1 | h1
  · exact h.cl q h1
  · obtain rfl : q = i := by omega
    have := h.cj
    rwa [List.take_of_length_le (Nat.le_refl _)] at this
theorem PInv.all (h : PInv E K (foldU K idU E) st R R.length 0 0) (v : Nat) (hv : v < K) : v ∈ R ↔ foldU K idU E v = foldU K idU E st := by
  constructor
  · exact h.comp v
  · intro hF
    have hc : Conn K E v st := (foldU_conn K E v st).1 hF
    have key : ∀ a b, Conn K E a b → (a ∈ R ↔ b ∈ R) := by
      intro a b hab
      induction hab with
      | refl i => exact Iff.rfl
      | @edge a b hm ha hb =>
        have la := in_lt ha
        have lb := in_lt hb
        have ea := in_nat ha
        have eb := in_nat hb
        have get : ∀ u : Nat, u ∈ R → Closed E K R u := fun u hu => by
          obtain ⟨q, hq, rfl⟩ := List.mem_iff_getElem.1 hu
          have := h.cl q hq
          simpa [List.getD_eq_getElem?_getD, hq] using this
        constructor
        · intro hu
          exact get _ hu _ lb (.inl (by rw [ea, eb]; exact hm))
        · intro hu
          exact get _ hu _ la (.inr (by rw [ea, eb]; exact hm))
      | symm _ ih => exact ih.symm
      | trans _ _ ih ih' => exact ih.trans ih'
    exact (key v st hc).2 h.start
theorem PInv.count (hP : Part (foldU K idU E)) (h : PInv E K (foldU K idU E) st R R.length 0 0) : R.length = (memb (foldU K idU E) K (foldU K idU E st)).length := by
  have h1 := nodup_sub_len h.nodup (M := memb (foldU K idU E) K (foldU K idU E st)) (fun x hx => mem_memb.2 ⟨h.lt x hx, h.comp x hx⟩)
  have h2 := nodup_sub_len (memb_nodup (foldU K idU E) K (foldU K idU E st)) (M := R) (fun x hx => (h.all x (mem_memb.1 hx).1).2 (mem_memb.1 hx).2)
  omega
theorem edge_comp {a b : Int} (hm : (a, b) ∈ E) {u v : Nat} (hu : u < K) (hv : v < K) (ha : a = u) (hb : b = v) : foldU K idU E u = foldU K idU E v := by
  subst ha hb
  have := foldU_hit (n := K) (f := idU) hm (by simp [inR]; omega) (by simp [inR]; omega)
  simpa using this
end

set_option maxRecDepth 100000 in
set_option maxHeartbeats 16000000 in
theorem paths_walk (a0 : Int) (A : Option Addr) (n c : Nat) (l : List Int) (s : Int) (w : World) (ha0 : -9223372036854775808 ≤ a0 ∧ a0 ≤ 9223372036854775807)
    (nc : n ≤ c) (cm : c ≤ maxLen) (ln : l.length = n) (rd : Rd w w.heap.size 1 A n (l.map (Value.int .i64))) (wf : ∀ x ∈ l, (Lit.int .i64 x).wf = true)
    (hs : -9223372036854775808 ≤ s ∧ s ≤ 9223372036854775807) :
    Calls Try.prog 5 #[.int .i64 a0, .slice A n c, .int .i64 s] w fun e w' => e = .returned (.bool true) ∧ Below w.heap.size w w' := by
  have RD := Lib.hid rd
  have H64 := Lib.hid (fun x hx => bounds_i64 (wf x hx))
  have hn : n ≤ 9223372036854775807 := by unfold maxLen at cm; omega
  obtain ⟨K, hK, hK14⟩ := size_nat a0
  have HK := Lib.hid hK
  have HOK := Lib.hid (edgesOf_ok l)
  have HBD := Lib.hid (edgesOf_bd l)
  have hm30 : min n 30 ≤ 30 := Nat.min_le_right _ _
  have HM := Lib.hid (show (edgesOf l).length = min n 30 from by unfold edgesOf; rw [List.length_take, List.length_map, ln, Nat.min_comm])
  clear rd wf nc cm ln hK
  rcases Nat.eq_zero_or_pos K with hK0 | hK0
  · subst hK0
    have HG := Lib.hid (show groupsI (foldU 0 idU []) 0 = [] from rfl)
    have HE0 := Lib.hid (show EdgeBd [] from fun e he => by cases he)
    go_enter Try.func5, Try.ntmps5
    go_wp2_with fail
    refine (size_any a0 _ ha0.1 ha0.2).mono ?_
    rintro e w_ ⟨rfl, rfl⟩
    rw [HK.out]
    go_wp2_with fail
    refine (islands_any 0 none 0 0 [] _ (by omega) (by omega) HE0.out (Rd.nil none)).mono ?_
    rintro e w1 ⟨A1, c1, vs, h1, hc1, hm1, own1, rows1, hb1⟩
    rw [HG.out] at h1
    subst h1
    clear own1 rows1 hc1
    go_wp2_with fail
    refine (lives_any _).mono ?_
    rintro e w9 ⟨rfl, hb9⟩
    go_wp2
    go_ret
    exact ⟨rfl, by (repeat (first | (with_reducible exact Below.refl _ _) | (with_reducible assumption) | (with_reducible refine b_drew ?_) | (with_reducible refine b_drewN ?_ _) | (with_reducible refine b_alloc ?_ _) | ((with_reducible refine b_set ?_ ?_ _); rotate_left; (focus (first | omega | (simp; done) | (simp; omega) | (simp at *; omega)))) | (with_reducible refine b_call ?_ (by with_reducible assumption))))⟩
  have hst := around_bd s K (by omega)
  obtain ⟨st, hst'⟩ : ∃ st : Nat, around s K = st := ⟨(around s K).toNat, by omega⟩
  rw [hst'] at hst
  have hstK : st < K := by omega
  have HST := Lib.hid hst'
  have hK0' : ((K : Int) == 0) = false := by simp; omega
  clear hst hst'
  go_enter Try.func5, Try.ntmps5
  go_wp2_with fail
  refine (size_any a0 _ ha0.1 ha0.2).mono ?_
  rintro e w_ ⟨rfl, rfl⟩
  rw [HK.out]
  go_wp2_with fail
  refine (edges_any A n c l _ H64.out RD.out hn).mono ?_
  rintro e w1 ⟨A2, c2, rfl, hc2, hm2, own2, hb1⟩
  have R2 := Lib.hid (show Rd w1 w1.heap.size 2 A2 (min n 30) (flat2 (edgesOf l)) from rd_own own2)
  clear own2
  generalize min n 30 = m at *
  generalize edgesOf l = E at *
  go_wp2_with fail
  refine (around_any s K _ hs.1 hs.2 (by omega) (by omega)).mono ?_
  rintro e w_ ⟨rfl, rfl⟩
  rw [HST.out]
  have O0 := Lib.hid (show (w1.alloc (.cells #[.int .i64 (st : Int)] 3)).ownsRow w1.heap.size 3 1 (.slice (some ⟨w1.heap.size, 0, none⟩) 1 1) 1 ((intsI [st]).map (Value.int .i64)) from own_shut (Nat.le_refl _) (Vr.new w1 _ _) (by simp [intsI]) (by simp [intsI]) (Nat.le_refl _) (by unfold maxLen; omega) (by simp))
  have HP := Lib.hid (foldU_part part_id K E)
  obtain ⟨F, hF⟩ : ∃ F, foldU K idU E = F := ⟨_, rfl⟩
  have HF := Lib.hid hF
  clear hF
  go_wp2
  go_loopw [10, 11] (fun s10 s11 wr => ∃ (i N : Nat) (A5 : Option Addr) (c5 : Nat) (R : List Nat), i ≤ N ∧ N ≤ K ∧ s11 = .int .i64 i ∧ s10 = .slice A5 N c5 ∧ Hid (N = R.length) ∧ Hid (PInv E K F st R i 0 0) ∧ Hid (wr.ownsRow w1.heap.size 3 1 (.slice A5 N c5) N ((intsI R).map (Value.int .i64))) ∧ N ≤ c5 ∧ c5 ≤ maxLen ∧ Below w1.heap.size w1 wr) (fun _ i _ => K - (intOf i).toNat)
  case atStart => exact ⟨0, 1, some ⟨w1.heap.size, 0, none⟩, 1, [st], by omega, by omega, rfl, rfl, Lib.hid rfl, Lib.hid (PInv.init hstK), by simpa using O0, by omega, by unfold maxLen; omega, b_alloc (Below.refl _ _) _⟩
  case round =>
    obtain ⟨i, N, A5, c5, R, hi, hN, rfl, rfl, HN, HI, HO, hc5, hm5, hB⟩ := hrel
    by_cases hlt : i < N
    · go_wp2
      go_loopw [10, 12] (fun s10 s12 wr => ∃ (j N : Nat) (A5 : Option Addr) (c5 : Nat) (R : List Nat), j ≤ m ∧ i < N ∧ N ≤ K ∧ s12 = .int .i64 j ∧ s10 = .slice A5 N c5 ∧ Hid (N = R.length) ∧ Hid (PInv E K F st R i j 0) ∧ Hid (wr.ownsRow w1.heap.size 3 1 (.slice A5 N c5) N ((intsI R).map (Value.int .i64))) ∧ N ≤ c5 ∧ c5 ≤ maxLen ∧ Below w1.heap.size w1 wr) (fun _ j _ => m - (intOf j).toNat)
      case atStart => exact ⟨0, N, A5, c5, R, by omega, hlt, hN, rfl, rfl, HN, HI, HO, hc5, hm5, hB⟩
      case round =>
        clear HN HI HO hc5 hm5 hB hN hi hlt
        obtain ⟨j, N, A5, c5, R, hj, hlt, hN, rfl, rfl, HN, HI, HO, hc5, hm5, hB⟩ := hrel
        by_cases hjm : j < m
        · go_wp2
          go_loopw [10, 13] (fun s10 s13 wr => ∃ (t N : Nat) (A5 : Option Addr) (c5 : Nat) (R : List Nat), t ≤ 2 ∧ i < N ∧ N ≤ K ∧ s13 = .int .i64 t ∧ s10 = .slice A5 N c5 ∧ Hid (N = R.length) ∧ Hid (if t = 2 then PInv E K F st R i (j + 1) 0 else PInv E K F st R i j t) ∧ Hid (wr.ownsRow w1.heap.size 3 1 (.slice A5 N c5) N ((intsI R).map (Value.int .i64))) ∧ N ≤ c5 ∧ c5 ≤ maxLen ∧ Below w1.heap.size w1 wr) (fun _ t _ => 2 - (intOf t).toNat)
          case atStart => exact ⟨0, N, A5, c5, R, by omega, hlt, hN, rfl, rfl, HN, by simpa using HI, HO, hc5, hm5, hB⟩
          case round =>
            clear HN HI HO hc5 hm5 hB hN hlt
            obtain ⟨t, N, A5, c5, R, ht, hlt, hN, rfl, rfl, HN, HI, HO, hc5, hm5, hB⟩ := hrel
            by_cases ht2 : t < 2
            · obtain ⟨b, o, hl, rfl, hb, hc0, hc1⟩ := (R2.out.below hB (Nat.le_refl _)).openEdge hjm
              have hEJ := Lib.hid (List.getElem?_eq_getElem hl)
              have hEM := Lib.hid (List.getElem_mem hl)
              have hbd := HBD.out _ hEM.out
              obtain ⟨⟨x, y⟩, hxe⟩ : ∃ x, E[j] = x := ⟨_, rfl⟩
              rw [hxe] at hc0 hc1 hEJ hEM hbd
              clear hxe
              obtain ⟨⟨bx1, bx2⟩, by1, by2⟩ := hbd
              have hri := rd_at (rd_own HO.out) hlt
              obtain ⟨b2, o2, rfl, hb2, hcu⟩ := hri
              rw [ints_at' R (by rw [← HN.out]; exact hlt)] at hcu
              obtain ⟨u, hu⟩ : ∃ u, R.getD i 0 = u := ⟨_, rfl⟩
              have huR : u ∈ R := by
                rw [← hu, List.getD_eq_getElem?_getD, List.getElem?_eq_getElem (by rw [← HN.out]; exact hlt)]
                exact List.getElem_mem _
              rw [hu] at hcu
              have HU := Lib.hid (And.intro hu huR)
              clear hu huR
              have hzw := hB.size
              have hbw : b < wr.heap.size := by omega
              have hcases : t = 0 ∨ t = 1 := by omega
              rcases hcases with rfl | rfl
              · have HI0 := Lib.hid (show PInv E K F st R i j 0 from by simpa using HI.out)
                by_cases h1 : x = (u : Int)
                · by_cases h2 : 0 ≤ y
                  · by_cases h3 : y < (K : Int)
                    · by_cases h4 : y ∈ intsI R
                      · have HD := Lib.hid (show x = ((R.getD i 0 : Nat) : Int) → ∀ v : Nat, v < K → y = (v : Int) → v ∈ R from fun _ v hv hv2 => by rw [hv2] at h4; exact mem_intsI.1 h4)
                        have HI1 := Lib.hid (HI0.out.end0 hEJ.out HD.out)
                        have HQ := Lib.hid (show decide (y ∈ intsI R) = true from by simpa using h4)
                        have hq1 : (x == (u : Int)) = true := by simpa using h1
                        have hq2 : decide (0 ≤ y) = true := by simpa using h2
                        have hq3 : decide (y < (K : Int)) = true := by simpa using h3
                        clear h1 h2 h3 h4
                        go_wp2_with fail
                        go_region_held3 (fun w' => (∀ b o, b < wr.heap.size → w'.cell? ⟨b, o, none⟩ = wr.cell? ⟨b, o, none⟩) ∧ Below wr.heap.size wr w') (first | exact still_call (by assumption) (by assumption) | exact still_drew0 _ | exact still_drew (by assumption) | exact still_alloc (by assumption) _ | exact still_of (by (repeat (first | (with_reducible exact Below.refl _ _) | (with_reducible assumption) | (with_reducible refine b_drew ?_) | (with_reducible refine b_drewN ?_ _) | (with_reducible refine b_alloc ?_ _) | ((with_reducible refine b_set ?_ ?_ _); rotate_left; (focus (first | omega | (simp; done) | (simp; omega) | (simp at *; omega)))) | (with_reducible refine b_call ?_ (by with_reducible assumption)))))) (first
                          | (go_at_call 18; refine (has_is (some ⟨b2, o2, none⟩) N c5 (intsI R) y _ true (by omega) (rd_step (rd_own HO.out) (by (repeat (first | (with_reducible exact Below.refl _ _) | (with_reducible assumption) | (with_reducible refine b_drew ?_) | (with_reducible refine b_drewN ?_ _) | (with_reducible refine b_alloc ?_ _) | ((with_reducible refine b_set ?_ ?_ _); rotate_left; (focus (first | omega | (simp; done) | (simp; omega) | (simp at *; omega)))) | (with_reducible refine b_call ?_ (by with_reducible assumption)))))) HQ.out).mono ?_; rintro e w_ ⟨rfl, rfl⟩))
                        go_wp2
                        go_roundw
                        case rel => exact ⟨1, N, some ⟨b2, o2, none⟩, c5, R, by omega, by omega, by omega, rfl, rfl, HN, Lib.hid (by simpa using HI1.out), (by first | exact HO | exact Lib.hid HO.out), hc5, hm5, (by first | exact hB | exact hB.drew | exact below_drewN hB _)⟩
                        case measure => simp [intOf]
                      · obtain ⟨z, rfl⟩ : ∃ z : Nat, y = z := ⟨y.toNat, by omega⟩
                        have hzK : z < K := by omega
                        have HZ := Lib.hid (show ¬ z ∈ R from fun h => h4 (mem_intsI.2 h))
                        have HFz := Lib.hid (show F z = F st from by rw [← HI0.out.comp u HU.out.2, ← HF.out]; exact (edge_comp hEM.out (HI0.out.lt u HU.out.2) hzK h1 rfl).symm)
                        have HI1 := Lib.hid ((HI0.out.add (by rw [← HN.out]; exact hlt) hzK HZ.out HFz.out).end0 hEJ.out (fun _ v _ hv => by rw [show v = z from by omega]; simp))
                        have HQ := Lib.hid (show decide ((z : Int) ∈ intsI R) = false from by simpa using h4)
                        have hq1 : (x == (u : Int)) = true := by simpa using h1
                        have hq2 : decide (0 ≤ (z : Int)) = true := by simp
                        have hq3 : decide ((z : Int) < (K : Int)) = true := by simpa using hzK
                        have hq4 : decide (z < K) = true := by simpa using hzK
                        clear h1 h2 h3 h4
                        have hL5 := HI1.out.len
                        rw [List.length_append, ← HN.out] at hL5
                        have hL6 : N + 1 ≤ K := hL5
                        clear hL5
                        go_wp2_with fail
                        go_region_held3 (fun w' => (∀ b o, b < wr.heap.size → w'.cell? ⟨b, o, none⟩ = wr.cell? ⟨b, o, none⟩) ∧ Below wr.heap.size wr w') (first | exact still_call (by assumption) (by assumption) | exact still_drew0 _ | exact still_drew (by assumption) | exact still_alloc (by assumption) _ | exact still_of (by (repeat (first | (with_reducible exact Below.refl _ _) | (with_reducible assumption) | (with_reducible refine b_drew ?_) | (with_reducible refine b_drewN ?_ _) | (with_reducible refine b_alloc ?_ _) | ((with_reducible refine b_set ?_ ?_ _); rotate_left; (focus (first | omega | (simp; done) | (simp; omega) | (simp at *; omega)))) | (with_reducible refine b_call ?_ (by with_reducible assumption)))))) (first
                          | (go_at_call 18; refine (has_is (some ⟨b2, o2, none⟩) N c5 (intsI R) z _ false (by omega) (rd_step (rd_own HO.out) (by (repeat (first | (with_reducible exact Below.refl _ _) | (with_reducible assumption) | (with_reducible refine b_drew ?_) | (with_reducible refine b_drewN ?_ _) | (with_reducible refine b_alloc ?_ _) | ((with_reducible refine b_set ?_ ?_ _); rotate_left; (focus (first | omega | (simp; done) | (simp; omega) | (simp at *; omega)))) | (with_reducible refine b_call ?_ (by with_reducible assumption)))))) HQ.out).mono ?_; rintro e w_ ⟨rfl, rfl⟩))
                        have HO2 := Lib.hid (own_drew HO.out)
                        go_wp2_with (at_builtin; refine wpList_app _ rfl (.tmp 84) (.tmp 86) slInts rfl rfl (HO2.out.alloc _) rfl (rd_lit _ _ _ rfl rfl) (by intro u hu; simp at hu; subst hu; rfl) (N + 1) rfl (by unfold maxLen; omega) (by omega) (by simp; omega) ?_; intro A8 c8 w8 g1 g2 g3 g4 g5)
                        go_roundw
                        case rel => exact ⟨1, N + 1, A8, c8, R ++ [z], by omega, by omega, by omega, rfl, rfl, Lib.hid (by rw [List.length_append, ← HN.out]; rfl), Lib.hid (by simpa using HI1.out), Lib.hid (by rw [intsI_append, List.map_append]; exact g3), g1, g2, below_app ((hB.drew).alloc (by simpa using hzw) _) (HO2.out.alloc _) g4 (Nat.le_refl _) (by simp; omega)⟩
                        case measure => simp [intOf]
                    · have HD := Lib.hid (show x = ((R.getD i 0 : Nat) : Int) → ∀ v : Nat, v < K → y = (v : Int) → v ∈ R from fun _ v hv hv2 => by omega)
                      have HI1 := Lib.hid (HI0.out.end0 hEJ.out HD.out)
                      have HQ := Lib.hid (show decide (y ∈ intsI R) = decide (y ∈ intsI R) from rfl)
                      have hq1 : (x == (u : Int)) = true := by simpa using h1
                      have hq2 : decide (0 ≤ y) = true := by simpa using h2
                      have hq3 : decide (y < (K : Int)) = false := by simpa using h3
                      clear h1 h2 h3
                      go_wp2_with fail
                      go_quiet (fail)
                      go_wp2
                      go_roundw
                      case rel => exact ⟨1, N, some ⟨b2, o2, none⟩, c5, R, by omega, by omega, by omega, rfl, rfl, HN, Lib.hid (by simpa using HI1.out), (by first | exact HO | exact Lib.hid HO.out), hc5, hm5, (by first | exact hB | exact hB.drew | exact below_drewN hB _)⟩
                      case measure => simp [intOf]
                  · omega
                · have HD := Lib.hid (show x = ((R.getD i 0 : Nat) : Int) → ∀ v : Nat, v < K → y = (v : Int) → v ∈ R from fun h => absurd (by rw [HU.out.1] at h; exact h) h1)
                  have HI1 := Lib.hid (HI0.out.end0 hEJ.out HD.out)
                  have HQ := Lib.hid (show decide (y ∈ intsI R) = decide (y ∈ intsI R) from rfl)
                  have hq1 : (x == (u : Int)) = false := by simpa using h1
                  clear h1
                  go_wp2_with fail
                  go_quiet (fail)
                  go_wp2
                  go_roundw
                  case rel => exact ⟨1, N, some ⟨b2, o2, none⟩, c5, R, by omega, by omega, by omega, rfl, rfl, HN, Lib.hid (by simpa using HI1.out), (by first | exact HO | exact Lib.hid HO.out), hc5, hm5, (by first | exact hB | exact hB.drew | exact below_drewN hB _)⟩
                  case measure => simp [intOf]
              · have HI0 := Lib.hid (show PInv E K F st R i j 1 from by simpa using HI.out)
                by_cases h1 : y = (u : Int)
                · by_cases h2 : 0 ≤ x
                  · by_cases h3 : x < (K : Int)
                    · by_cases h4 : x ∈ intsI R
                      · have HD := Lib.hid (show y = ((R.getD i 0 : Nat) : Int) → ∀ v : Nat, v < K → x = (v : Int) → v ∈ R from fun _ v hv hv2 => by rw [hv2] at h4; exact mem_intsI.1 h4)
                        have HI1 := Lib.hid (HI0.out.end1 hEJ.out HD.out)
                        have HQ := Lib.hid (show decide (x ∈ intsI R) = true from by simpa using h4)
                        have hq1 : (y == (u : Int)) = true := by simpa using h1
                        have hq2 : decide (0 ≤ x) = true := by simpa using h2
                        have hq3 : decide (x < (K : Int)) = true := by simpa using h3
                        clear h1 h2 h3 h4
                        go_wp2_with fail
                        go_region_held3 (fun w' => (∀ b o, b < wr.heap.size → w'.cell? ⟨b, o, none⟩ = wr.cell? ⟨b, o, none⟩) ∧ Below wr.heap.size wr w') (first | exact still_call (by assumption) (by assumption) | exact still_drew0 _ | exact still_drew (by assumption) | exact still_alloc (by assumption) _ | exact still_of (by (repeat (first | (with_reducible exact Below.refl _ _) | (with_reducible assumption) | (with_reducible refine b_drew ?_) | (with_reducible refine b_drewN ?_ _) | (with_reducible refine b_alloc ?_ _) | ((with_reducible refine b_set ?_ ?_ _); rotate_left; (focus (first | omega | (simp; done) | (simp; omega) | (simp at *; omega)))) | (with_reducible refine b_call ?_ (by with_reducible assumption)))))) (first
                          | (go_at_call 18; refine (has_is (some ⟨b2, o2, none⟩) N c5 (intsI R) x _ true (by omega) (rd_step (rd_own HO.out) (by (repeat (first | (with_reducible exact Below.refl _ _) | (with_reducible assumption) | (with_reducible refine b_drew ?_) | (with_reducible refine b_drewN ?_ _) | (with_reducible refine b_alloc ?_ _) | ((with_reducible refine b_set ?_ ?_ _); rotate_left; (focus (first | omega | (simp; done) | (simp; omega) | (simp at *; omega)))) | (with_reducible refine b_call ?_ (by with_reducible assumption)))))) HQ.out).mono ?_; rintro e w_ ⟨rfl, rfl⟩))
                        go_wp2
                        go_roundw
                        case rel => exact ⟨2, N, some ⟨b2, o2, none⟩, c5, R, by omega, by omega, by omega, rfl, rfl, HN, Lib.hid (by simpa using HI1.out), (by first | exact HO | exact Lib.hid HO.out), hc5, hm5, (by first | exact hB | exact hB.drew | exact below_drewN hB _)⟩
                        case measure => simp [intOf]
                      · obtain ⟨z, rfl⟩ : ∃ z : Nat, x = z := ⟨x.toNat, by omega⟩
                        have hzK : z < K := by omega
                        have HZ := Lib.hid (show ¬ z ∈ R from fun h => h4 (mem_intsI.2 h))
                        have HFz := Lib.hid (show F z = F st from by rw [← HI0.out.comp u HU.out.2, ← HF.out]; exact edge_comp hEM.out hzK (HI0.out.lt u HU.out.2) rfl h1)
                        have HI1 := Lib.hid ((HI0.out.add (by rw [← HN.out]; exact hlt) hzK HZ.out HFz.out).end1 hEJ.out (fun _ v _ hv => by rw [show v = z from by omega]; simp))
                        have HQ := Lib.hid (show decide ((z : Int) ∈ intsI R) = false from by simpa using h4)
                        have hq1 : (y == (u : Int)) = true := by simpa using h1
                        have hq2 : decide (0 ≤ (z : Int)) = true := by simp
                        have hq3 : decide ((z : Int) < (K : Int)) = true := by simpa using hzK
                        have hq4 : decide (z < K) = true := by simpa using hzK
                        clear h1 h2 h3 h4
                        have hL5 := HI1.out.len
                        rw [List.length_append, ← HN.out] at hL5
                        have hL6 : N + 1 ≤ K := hL5
                        clear hL5
                        go_wp2_with fail
                        go_region_held3 (fun w' => (∀ b o, b < wr.heap.size → w'.cell? ⟨b, o, none⟩ = wr.cell? ⟨b, o, none⟩) ∧ Below wr.heap.size wr w') (first | exact still_call (by assumption) (by assumption) | exact still_drew0 _ | exact still_drew (by assumption) | exact still_alloc (by assumption) _ | exact still_of (by (repeat (first | (with_reducible exact Below.refl _ _) | (with_reducible assumption) | (with_reducible refine b_drew ?_) | (with_reducible refine b_drewN ?_ _) | (with_reducible refine b_alloc ?_ _) | ((with_reducible refine b_set ?_ ?_ _); rotate_left; (focus (first | omega | (simp; done) | (simp; omega) | (simp at *; omega)))) | (with_reducible refine b_call ?_ (by with_reducible assumption)))))) (first
                          | (go_at_call 18; refine (has_is (some ⟨b2, o2, none⟩) N c5 (intsI R) z _ false (by omega) (rd_step (rd_own HO.out) (by (repeat (first | (with_reducible exact Below.refl _ _) | (with_reducible assumption) | (with_reducible refine b_drew ?_) | (with_reducible refine b_drewN ?_ _) | (with_reducible refine b_alloc ?_ _) | ((with_reducible refine b_set ?_ ?_ _); rotate_left; (focus (first | omega | (simp; done) | (simp; omega) | (simp at *; omega)))) | (with_reducible refine b_call ?_ (by with_reducible assumption)))))) HQ.out).mono ?_; rintro e w_ ⟨rfl, rfl⟩))
                        have HO2 := Lib.hid (own_drew HO.out)
                        go_wp2_with (at_builtin; refine wpList_app _ rfl (.tmp 84) (.tmp 86) slInts rfl rfl (HO2.out.alloc _) rfl (rd_lit _ _ _ rfl rfl) (by intro u hu; simp at hu; subst hu; rfl) (N + 1) rfl (by unfold maxLen; omega) (by omega) (by simp; omega) ?_; intro A8 c8 w8 g1 g2 g3 g4 g5)
                        go_roundw
                        case rel => exact ⟨2, N + 1, A8, c8, R ++ [z], by omega, by omega, by omega, rfl, rfl, Lib.hid (by rw [List.length_append, ← HN.out]; rfl), Lib.hid (by simpa using HI1.out), Lib.hid (by rw [intsI_append, List.map_append]; exact g3), g1, g2, below_app ((hB.drew).alloc (by simpa using hzw) _) (HO2.out.alloc _) g4 (Nat.le_refl _) (by simp; omega)⟩
                        case measure => simp [intOf]
                    · have HD := Lib.hid (show y = ((R.getD i 0 : Nat) : Int) → ∀ v : Nat, v < K → x = (v : Int) → v ∈ R from fun _ v hv hv2 => by omega)
                      have HI1 := Lib.hid (HI0.out.end1 hEJ.out HD.out)
                      have HQ := Lib.hid (show decide (x ∈ intsI R) = decide (x ∈ intsI R) from rfl)
                      have hq1 : (y == (u : Int)) = true := by simpa using h1
                      have hq2 : decide (0 ≤ x) = true := by simpa using h2
                      have hq3 : decide (x < (K : Int)) = false := by simpa using h3
                      clear h1 h2 h3
                      go_wp2_with fail
                      go_quiet (fail)
                      go_wp2
                      go_roundw
                      case rel => exact ⟨2, N, some ⟨b2, o2, none⟩, c5, R, by omega, by omega, by omega, rfl, rfl, HN, Lib.hid (by simpa using HI1.out), (by first | exact HO | exact Lib.hid HO.out), hc5, hm5, (by first | exact hB | exact hB.drew | exact below_drewN hB _)⟩
                      case measure => simp [intOf]
                  · have HD := Lib.hid (show y = ((R.getD i 0 : Nat) : Int) → ∀ v : Nat, v < K → x = (v : Int) → v ∈ R from fun _ v _ hv => by omega)
                    have HI1 := Lib.hid (HI0.out.end1 hEJ.out HD.out)
                    have HQ := Lib.hid (show decide (x ∈ intsI R) = decide (x ∈ intsI R) from rfl)
                    have hq1 : (y == (u : Int)) = true := by simpa using h1
                    have hq2 : decide (0 ≤ x) = false := by simpa using h2
                    clear h1 h2
                    go_wp2_with fail
                    go_quiet (fail)
                    go_wp2
                    go_roundw
                    case rel => exact ⟨2, N, some ⟨b2, o2, none⟩, c5, R, by omega, by omega, by omega, rfl, rfl, HN, Lib.hid (by simpa using HI1.out), (by first | exact HO | exact Lib.hid HO.out), hc5, hm5, (by first | exact hB | exact hB.drew | exact below_drewN hB _)⟩
                    case measure => simp [intOf]
                · have HD := Lib.hid (show y = ((R.getD i 0 : Nat) : Int) → ∀ v : Nat, v < K → x = (v : Int) → v ∈ R from fun h => absurd (by rw [HU.out.1] at h; exact h) h1)
                  have HI1 := Lib.hid (HI0.out.end1 hEJ.out HD.out)
                  have HQ := Lib.hid (show decide (x ∈ intsI R) = decide (x ∈ intsI R) from rfl)
                  have hq1 : (y == (u : Int)) = false := by simpa using h1
                  clear h1
                  go_wp2_with fail
                  go_quiet (fail)
                  go_wp2
                  go_roundw
                  case rel => exact ⟨2, N, some ⟨b2, o2, none⟩, c5, R, by omega, by omega, by omega, rfl, rfl, HN, Lib.hid (by simpa using HI1.out), (by first | exact HO | exact Lib.hid HO.out), hc5, hm5, (by first | exact hB | exact hB.drew | exact below_drewN hB _)⟩
                  case measure => simp [intOf]
            · obtain rfl : t = 2 := by omega
              go_wp2
              go_roundw
              case rel => exact ⟨j + 1, N, A5, c5, R, by omega, hlt, hN, by go_num, rfl, HN, by simpa using HI, HO, hc5, hm5, hB⟩
              case measure => simp [intOf]; omega
        · obtain rfl : j = m := by omega
          have HI2 := Lib.hid (show PInv E K F st R (i + 1) 0 0 from by
            have h := HI.out
            rw [← HM.out] at h
            exact h.next)
          go_wp2
          go_roundw
          case rel => exact ⟨i + 1, N, A5, c5, R, by omega, hN, by go_num, rfl, HN, HI2, HO, hc5, hm5, hB⟩
          case measure => simp [intOf]; omega
    · obtain rfl : i = N := by omega
      have HI' := Lib.hid (show PInv E K (foldU K idU E) st R R.length 0 0 from by rw [HF.out, ← HN.out]; exact HI.out)
      have HCN := Lib.hid (show i = (memb F K (F st)).length from by rw [HN.out, ← HF.out]; exact HI'.out.count HP.out)
      have HAL := Lib.hid (fun v hv => HI'.out.all v hv)
      have HS := Lib.hid (groups_small (f := F) (n := K) (by omega))
      have HPF := Lib.hid (show Part F from by rw [← HF.out]; exact HP.out)
      have HLT := Lib.hid HI.out.lt
      go_wp2_with fail
      refine (islands_any K A2 m c2 E _ (by omega) (by omega) HOK.out (rd_step R2.out hB)).mono ?_
      rintro e w5 ⟨A6, c6, vs6, h6, hc6, hm6, own6, rows6, hb5⟩
      rw [HF.out] at h6 hc6 own6 rows6
      subst h6
      have R6 := Lib.hid (RdRows.of own6 rfl rows6)
      have HO5 := Lib.hid (own_below HO.out hb5)
      have hB5 : Below w.heap.size w w5 := b_call (b_call hb1 hB) hb5
      have hGL := groupsI_len F K
      obtain ⟨h, hh⟩ : ∃ h, (groupsI F K).length = h := ⟨_, rfl⟩
      rw [hh] at R6 hc6 hGL ⊢
      have HH := Lib.hid hGL
      have hh4 : h ≤ 100000 := by have := HS.out.1; omega
      clear own6 rows6 hh hGL
      go_wp2
      go_loopw [16] (fun s16 wr => ∃ q : Nat, q ≤ h ∧ s16 = .int .i64 q ∧ Hid (∀ q', q' < q → (heads F K).getD q' 0 ≠ F st) ∧ Below w5.heap.size w5 wr) (fun q _ => h - (intOf q).toNat)
      case atStart => exact ⟨0, by omega, rfl, Lib.hid (fun q hq => by omega), Below.refl _ _⟩
      case round =>
        obtain ⟨Y, rfl⟩ : ∃ Y : World, Y = wr := ⟨_, rfl⟩
        obtain ⟨q, hq, rfl, HQ, hBq⟩ := hrel
        by_cases hql : q < h
        · obtain ⟨b, o, A7, c7, rfl, hb, hcell, hr7⟩ := (R6.out.step hBq).open hql
          have hqh : q < (heads F K).length := by rw [← HH.out]; exact hql
          have hrow : (groupsI F K).getD q [] = intsI (memb F K ((heads F K).getD q 0)) := by
            simp [groupsI, groupsU, List.getD_eq_getElem?_getD, hqh]
          rw [hrow, intsI_len] at hcell
          rw [hrow, intsI_len] at hr7
          have HR7 := Lib.hid hr7
          have hL7 := memb_len F K ((heads F K).getD q 0)
          clear hrow hr7 hqh
          by_cases he : (heads F K).getD q 0 = F st
          · rw [he] at hcell HR7 hL7
            have HHas := Lib.hid (show decide ((st : Int) ∈ intsI (memb F K (F st))) = true from by
              rw [decide_eq_true_iff, mem_intsI, mem_memb]
              exact ⟨hstK, rfl⟩)
            have HHj := Lib.hid (fun (r : Nat) (hr : r ∈ R) => show decide ((r : Int) ∈ intsI (memb F K (F st))) = true from by
              rw [decide_eq_true_iff, mem_intsI, mem_memb]
              have h1 := HLT.out r hr
              have h2 := (HAL.out r h1).1 hr
              rw [HF.out] at h2
              exact ⟨h1, h2⟩)
            rw [← HCN.out] at hcell HR7 hL7
            clear he
            go_wp2_with fail
            refine (has_is A7 i c7 _ (st : Int) _ true (by omega) HR7.out HHas.out).mono ?_
            rintro e w_ ⟨rfl, rfl⟩
            have hii : ((i : Int) != (i : Int)) = false := by simp
            go_wp2
            go_loopw [17] (fun s17 wr => ∃ j : Nat, j ≤ i ∧ s17 = .int .i64 j ∧ Below Y.heap.size Y wr) (fun j _ => i - (intOf j).toNat)
            case atStart => exact ⟨0, by omega, rfl, Below.refl _ _⟩
            case round =>
              obtain ⟨j, hj, rfl, hBj⟩ := hrel
              have hcell2 := cell_keep hBj hcell
              have hzb := hBj.size
              have hbw : b < wr.heap.size := by omega
              by_cases hji : j < i
              · obtain ⟨b2, o2, rfl, hb2, hcr⟩ := rd_at (rd_step (rd_step (rd_own HO5.out) hBq) hBj) hji
                rw [ints_at' R (by rw [← HN.out]; exact hji)] at hcr
                have hrm : R.getD j 0 ∈ R := by
                  rw [List.getD_eq_getElem?_getD, List.getElem?_eq_getElem (by rw [← HN.out]; exact hji)]
                  exact List.getElem_mem _
                have HR := Lib.hid (HHj.out _ hrm)
                clear hrm
                generalize R.getD j 0 = r at *
                go_wp2_with fail
                go_region_held3 (fun w' => (∀ b o, b < wr.heap.size → w'.cell? ⟨b, o, none⟩ = wr.cell? ⟨b, o, none⟩) ∧ Below wr.heap.size wr w') (first | exact still_call (by assumption) (by assumption) | exact still_drew0 _ | exact still_drew (by assumption) | exact still_alloc (by assumption) _ | exact still_of (by (repeat (first | (with_reducible exact Below.refl _ _) | (with_reducible assumption) | (with_reducible refine b_drew ?_) | (with_reducible refine b_drewN ?_ _) | (with_reducible refine b_alloc ?_ _) | ((with_reducible refine b_set ?_ ?_ _); rotate_left; (focus (first | omega | (simp; done) | (simp; omega) | (simp at *; omega)))) | (with_reducible refine b_call ?_ (by with_reducible assumption)))))) (first
                  | (go_at_call 18; refine (has_is A7 i c7 _ (r : Int) _ true (by omega) (rd_step (rd_step HR7.out hBj) (by (repeat (first | (with_reducible exact Below.refl _ _) | (with_reducible assumption) | (with_reducible refine b_drew ?_) | (with_reducible refine b_drewN ?_ _) | (with_reducible refine b_alloc ?_ _) | ((with_reducible refine b_set ?_ ?_ _); rotate_left; (focus (first | omega | (simp; done) | (simp; omega) | (simp at *; omega)))) | (with_reducible refine b_call ?_ (by with_reducible assumption)))))) HR.out).mono ?_; rintro e w_ ⟨rfl, rfl⟩))
                go_wp2
                go_roundw
                case rel => exact ⟨j + 1, by omega, by go_num, by first | exact hBj | exact hBj.drew | exact below_drewN hBj _⟩
                case measure => simp [intOf]; omega
              · have hBf := b_call (b_call hB5 hBq) hBj
                clear hBj
                go_wp2_with fail
                refine (lives_any _).mono ?_
                rintro e w9 ⟨rfl, hb9⟩
                go_wp2
                go_ret
                exact ⟨rfl, by (repeat (first | (with_reducible exact Below.refl _ _) | (with_reducible assumption) | (with_reducible refine b_drew ?_) | (with_reducible refine b_drewN ?_ _) | (with_reducible refine b_alloc ?_ _) | ((with_reducible refine b_set ?_ ?_ _); rotate_left; (focus (first | omega | (simp; done) | (simp; omega) | (simp at *; omega)))) | (with_reducible refine b_call ?_ (by with_reducible assumption))))⟩
          · have HHas := Lib.hid (show decide ((st : Int) ∈ intsI (memb F K ((heads F K).getD q 0))) = false from by
              rw [decide_eq_false_iff_not, mem_intsI, mem_memb]
              rintro ⟨_, h1⟩
              exact he h1.symm)
            have HQ2 := Lib.hid (show ∀ q', q' < q + 1 → (heads F K).getD q' 0 ≠ F st from fun q' hq' => by
              rcases Nat.lt_or_ge q' q with h1 | h1
              · exact HQ.out q' h1
              · obtain rfl : q' = q := by omega
                exact he)
            generalize memb F K ((heads F K).getD q 0) = M at *
            clear he
            obtain ⟨L, hL⟩ : ∃ L, M.length = L := ⟨_, rfl⟩
            rw [hL] at hcell HR7 hL7
            clear hL
            go_wp2_with fail
            refine (has_is A7 L c7 _ (st : Int) _ false (by omega) HR7.out HHas.out).mono ?_
            rintro e w_ ⟨rfl, rfl⟩
            go_wp2
            go_roundw
            case rel => exact ⟨q + 1, by omega, by go_num, HQ2, hBq⟩
            case measure => simp [intOf]; omega
        · exfalso
          obtain rfl : q = h := by omega
          have hm : F st ∈ heads F K := mem_heads.2 ⟨HPF.out.lt hstK, HPF.out.idem st⟩
          obtain ⟨q', hq', he'⟩ := List.mem_iff_getElem.1 hm
          refine HQ.out q' (by rw [HH.out]; exact hq') ?_
          rw [List.getD_eq_getElem?_getD, List.getElem?_eq_getElem hq']
          exact he'
end Go.Proofs.Ytjmhibjkbnbefaa
