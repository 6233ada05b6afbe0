/-
  WHAT IS PROVED HERE: the reference's rounds in memory; the contracts of its New and with. No condition but that the round lies in memory as stated.
-/
import Derived.Test.YtojmkfhinkmhaaaCrS
import Derived.Test.YtojmkfhinkmhaaaMake
namespace Go.Proofs.Ytojmkfhinkmhaaa
set_option linter.unusedVariables false
open Go.ChangeShapes Go.WideShapes Go.ChangeAt Go.RowKit

/-- The cells of a state in the reference. -/
def oneC (s : StV) : List Value := [.bool s.c, .int .u64 s.h, .bool s.r, .int .i64 s.i.1, .int .i64 s.i.2.1, .int .i64 s.i.2.2]
theorem oneC_len (s : StV) : (oneC s).length = 6 := rfl
def onesC (f : Nat → StV) (k : Nat) : List Value := (List.range k).flatMap fun p => oneC (f p)
theorem onesC_succ (f : Nat → StV) (k : Nat) : onesC f (k + 1) = onesC f k ++ oneC (f k) := by simp [onesC, List.range_succ]
theorem onesC_len (f : Nat → StV) (k : Nat) : (onesC f k).length = k * 6 := by
  induction k with
  | zero => rfl
  | succ k ih => rw [onesC_succ, List.length_append, ih, oneC_len]; omega
theorem onesC_get (f : Nat → StV) {k p j : Nat} (hp : p < k) (hj : j < 6) : (onesC f k)[p * 6 + j]? = (oneC (f p))[j]? := by
  induction k with
  | zero => omega
  | succ k ih =>
    rw [onesC_succ]
    by_cases h : p < k
    · rw [List.getElem?_append_left (by rw [onesC_len]; omega)]
      exact ih h
    · obtain rfl : p = k := by omega
      rw [List.getElem?_append_right (by rw [onesC_len]; omega), onesC_len]
      congr 1
      omega
theorem onesC_cell (f : Nat → StV) (k : Nat) : ∀ u ∈ onesC f k, u.oneCell' = true := by
  intro u hu
  obtain ⟨p, _, hp⟩ := List.mem_flatMap.1 hu
  simp [oneC] at hp
  rcases hp with rfl | rfl | rfl | rfl | rfl | rfl <;> rfl
theorem onesC_set (f : Nat → StV) {k q j : Nat} (hq : q < k) (hj : j < 6) (v : Value) (s : StV) (h : oneC s = (oneC (f q)).set j v) : (onesC f k).set (q * 6 + j) v = onesC (setSt f q s) k := by
  refine List.ext_getElem? fun i => ?_
  rw [List.getElem?_set, onesC_len]
  by_cases hi : q * 6 + j = i
  · subst hi
    rw [if_pos rfl, if_pos (by omega), onesC_get _ hq hj, setSt_at, h, List.getElem?_set_self (by rw [oneC_len]; exact hj)]
  · rw [if_neg hi]
    rcases Nat.lt_or_ge i (k * 6) with h4 | h4
    · obtain ⟨p, m, rfl, hp, hm⟩ : ∃ p m, i = p * 6 + m ∧ p < k ∧ m < 6 := ⟨i / 6, i % 6, by omega, by omega, by omega⟩
      rw [onesC_get _ hp hm, onesC_get _ hp hm]
      by_cases hpq : p = q
      · subst hpq
        rw [setSt_at, h, List.getElem?_set_ne (by omega)]
      · rw [setSt_ne hpq]
    · rw [List.getElem?_eq_none (by rw [onesC_len]; exact h4), List.getElem?_eq_none (by rw [onesC_len]; exact h4)]
theorem slOnes : SlT Try.prog 54 81 6 48 := .mk' (z := .agg #[.bool false, .int .u64 0, .bool false, .int .i64 0, .int .i64 0, .int .i64 0]) Try.underlying54 (by kernel_rfl) rfl (by omega)
theorem zero_ones (k : Nat) : (madeCells #[Value.bool false, .int .u64 0, .bool false, .int .i64 0, .int .i64 0, .int .i64 0] (k * 6)).toList = onesC (fun _ => st0) k := by
  refine List.ext_getElem? fun i => ?_
  rcases Nat.lt_or_ge i (k * 6) with h4 | h4
  · obtain ⟨p, m, rfl, hp, hm⟩ : ∃ p m, i = p * 6 + m ∧ p < k ∧ m < 6 := ⟨i / 6, i % 6, by omega, by omega, by omega⟩
    rw [onesC_get _ hp hm]
    have e : (p * 6 + m) % 6 = m := by omega
    have hm : m = 0 ∨ m = 1 ∨ m = 2 ∨ m = 3 ∨ m = 4 ∨ m = 5 := by omega
    simp only [madeCells, Array.toList_map, Array.toList_range, List.getElem?_map, List.getElem?_range h4, Option.map_some, List.size_toArray, List.length_cons, List.length_nil, Nat.zero_add, Nat.reduceAdd, e]
    rcases hm with rfl | rfl | rfl | rfl | rfl | rfl <;> rfl
  · rw [List.getElem?_eq_none (by rw [Array.length_toList, size_madeCells]; exact h4), List.getElem?_eq_none (by rw [onesC_len]; exact h4)]
theorem name_post {P : Program} {f : Func} {R : Ending → World → Prop} {e : Exit} {a : Go.Act} {W : World} (h : ∀ X, X = W → bodyPost P f R e a X) : bodyPost P f R e a W := h W rfl
/-- A round of the reference comes back. -/
def RetRef (w : World) (r : RdV) (e : Ending) (w' : World) : Prop :=
  ∃ A c, e = .returned (.agg #[.int .i64 r.t, .slice A r.k c, .bool r.o]) ∧ Rd w' w'.heap.size 6 A r.k (onesC r.st r.k) ∧ Below w.heap.size w w' ∧ ∀ a, A = some a → w.heap.size ≤ a.block
/-- The same, in new memory. -/
def RetRefO (w : World) (r : RdV) (e : Ending) (w' : World) : Prop :=
  ∃ A c, e = .returned (.agg #[.int .i64 r.t, .slice A r.k c, .bool r.o]) ∧ w'.ownsRow w.heap.size 81 6 (.slice A r.k c) r.k (onesC r.st r.k) ∧ Below w.heap.size w w'
set_option maxHeartbeats 1000000 in
theorem refnew_any (k : Nat) (t : Int) (w : World) (hk : k ≤ 8) :
    Calls Try.prog 27 #[.int .i64 k, .int .i64 t] w (RetRef w (newR k t)) := by
  have hm := fun W => run_mk (P := Try.prog) (t := 54) (e := 81) (z := .agg #[.bool false, .int .u64 0, .bool false, .int .i64 0, .int .i64 0, .int .i64 0]) (size := 6) (bytes := 48) Try.underlying54 (by kernel_rfl) k (by omega) (by omega) W
  go_enter Try.func27, Try.ntmps27
  go_wp2
  have hV := vr_new1 w (.cells #[.int .i64 t, .slice (some ⟨w.heap.size + 1, 0, none⟩) k k, .bool false] 56) 81 (madeCells #[.bool false, .int .u64 0, .bool false, .int .i64 0, .int .i64 0, .int .i64 0] (k * 6))
  have hR : Rd ((w.alloc (.cells #[.int .i64 t, .slice (some ⟨w.heap.size + 1, 0, none⟩) k k, .bool false] 56)).alloc (.cells (madeCells #[.bool false, .int .u64 0, .bool false, .int .i64 0, .int .i64 0, .int .i64 0] (k * 6)) 81)) (w.heap.size + 2) 6 (some ⟨w.heap.size + 1, 0, none⟩) k (onesC (fun _ => st0) k) := by
    rw [← zero_ones k]
    exact ⟨by simp [size_madeCells], fun _ => ⟨_, 0, rfl, by omega, fun j u hu => by rw [Nat.zero_add, hV.cell]; simpa using hu⟩⟩
  exact bodyPost_ret (v := .agg #[.int .i64 t, .slice (some ⟨w.heap.size + 1, 0, none⟩) k k, .bool false]) (by simp [results, Try.results27, go_sem]) rfl ⟨_, _, rfl, hR.more (by simp), by (repeat (first | (with_reducible exact Below.refl _ _) | (with_reducible assumption) | (with_reducible refine b_drew ?_) | (with_reducible refine b_drewN ?_ _) | (with_reducible refine b_alloc ?_ _) | ((with_reducible refine b_set ?_ ?_ _); rotate_left; (focus (first | omega | (simp; done) | (simp; omega) | (simp at *; omega)))) | (with_reducible refine b_call ?_ (by with_reducible assumption)))), fun a e => by injection e with e; subst e; simp⟩
theorem refr_len {w : World} {A : Option Addr} {k B : Nat} {f : Nat → StV} (h : Rd w B 6 A k (onesC f k)) {q : Nat} (hq : q < k) : ∃ b o, A = some ⟨b, o, none⟩ ∧ b < B ∧ ∀ j u, j < 6 → (oneC (f q))[j]? = some u → w.cell? ⟨b, o + (q * 6 + j), none⟩ = some u := by
  obtain ⟨b, o, e, hb, hc⟩ := h.2 (by
    intro e
    have := onesC_len f k
    rw [e] at this
    simp at this
    omega)
  exact ⟨b, o, e, hb, fun j u hj hu => hc _ u (by rw [onesC_get f hq hj]; exact hu)⟩
set_option maxRecDepth 100000 in
set_option maxHeartbeats 2000000 in
theorem with_any (A : Option Addr) (k c q : Nat) (t : Int) (o : Bool) (f : Nat → StV) (s : StV) (w : World) (rd : Rd w w.heap.size 6 A k (onesC f k)) (hq : q < k) (hk : k ≤ 8) :
    Calls Try.prog 49 #[.agg #[.int .i64 t, .slice A k c, .bool o], .int .i64 q, .agg #[.bool s.c, .int .u64 s.h, .bool s.r, .int .i64 s.i.1, .int .i64 s.i.2.1, .int .i64 s.i.2.2]] w (RetRefO w ⟨k, t, o, setSt f q s⟩) := by
  have RD := Lib.hid rd
  obtain ⟨sc, sr, sh, ⟨sa, sb, sd⟩⟩ := s
  clear rd
  simp only
  go_enter Try.func49, Try.ntmps49
  go_upto_region 3 with (at_builtin; refine wpList_app _ rfl (.tmp 8) (.tmp 10) slOnes rfl rfl (own_nil _ w.heap.size _ _) (A := A) (m := k) (c := c) rfl (RD.out.below (B' := w.heap.size) (by (repeat (first | (with_reducible exact Below.refl _ _) | (with_reducible assumption) | (with_reducible refine b_drew ?_) | (with_reducible refine b_drewN ?_ _) | (with_reducible refine b_alloc ?_ _) | ((with_reducible refine b_set ?_ ?_ _); rotate_left; (focus (first | omega | (simp; done) | (simp; omega) | (simp at *; omega)))) | (with_reducible refine b_call ?_ (by with_reducible assumption))))) (Nat.le_refl _)) (onesC_cell f k) k (Nat.zero_add _) (by unfold maxLen; omega) (by omega) (by simp; omega) ?_; intro A1 c1 w1 g1 g2 g3 g4 g5)
  have V0 := Lib.hid ((((Vr.new w 56 #[.int .i64 t, .slice A k c, .bool o]).alloc _).alloc _).grown g4 (by intro e; cases e))
  have V1 := Lib.hid (((vr_new1 w _ 81 #[.bool sc, .int .u64 sh, .bool sr, .int .i64 sa, .int .i64 sb, .int .i64 sd]).alloc _).grown g4 (by intro e; cases e))
  have V2 := Lib.hid ((vr_new2 w _ _ 56 #[.int .i64 0, .slice none 0 0, .bool false]).grown g4 (by intro e; cases e))
  have HB1 : Below w.heap.size w w1 := below_app (B0 := w.heap.size) (a0 := w) (by (repeat (first | (with_reducible exact Below.refl _ _) | (with_reducible assumption) | (with_reducible refine b_drew ?_) | (with_reducible refine b_drewN ?_ _) | (with_reducible refine b_alloc ?_ _) | ((with_reducible refine b_set ?_ ?_ _); rotate_left; (focus (first | omega | (simp; done) | (simp; omega) | (simp at *; omega)))) | (with_reducible refine b_call ?_ (by with_reducible assumption))))) (own_nil _ w.heap.size 81 6) g4 (Nat.le_refl _) (by simp; omega)
  have HO := Lib.hid (show w1.ownsRow w.heap.size 81 6 (.slice A1 k c1) k (onesC f k) from by simpa using g3)
  obtain ⟨b1, cur, rfl, hb1, hV1, htk, hkc, hcs⟩ := own_open HO.out (by omega)
  have hbe : b1 = w.heap.size + 1 + 1 + 1 := by
    rcases g5 with g | g
    · cases g
    · have g : some b1 = some _ := g
      injection g with g
      simpa using g
  have hz := HB1.size
  have hlt2 := V2.out.lt
  have hlb := hV1.lt
  have hf := hV1.frozen
  obtain ⟨b', o', he, _, hcell⟩ := refr_len (rd_own HO.out) hq
  injection he with he
  injection he with he1 he2
  subst he1 he2
  have z0 := hcell 0 _ (by omega) rfl
  have z1 := hcell 1 _ (by omega) rfl
  have z2 := hcell 2 _ (by omega) rfl
  have z3 := hcell 3 _ (by omega) rfl
  have z4 := hcell 4 _ (by omega) rfl
  have z5 := hcell 5 _ (by omega) rfl
  simp only [Nat.zero_add, Nat.add_zero] at z0 z1 z2 z3 z4 z5
  obtain ⟨_, x, _⟩ := V1.out.facts
  have x0 : w1.cell? ⟨w.heap.size + 1, 0, none⟩ = some (.bool sc) := x 0
  have x1 : w1.cell? ⟨w.heap.size + 1, 1, none⟩ = some (.int .u64 sh) := x 1
  have x2 : w1.cell? ⟨w.heap.size + 1, 2, none⟩ = some (.bool sr) := x 2
  have x3 : w1.cell? ⟨w.heap.size + 1, 3, none⟩ = some (.int .i64 sa) := x 3
  have x4 : w1.cell? ⟨w.heap.size + 1, 4, none⟩ = some (.int .i64 sb) := x 4
  have x5 : w1.cell? ⟨w.heap.size + 1, 5, none⟩ = some (.int .i64 sd) := x 5
  have k1 : (0 : Int) ≤ (q : Int) := by omega
  have k2 : (q : Int) < (k : Int) := by omega
  have hbl : w.heap.size + 1 + 1 < b1 := by omega
  clear hbe g1 g2 g3 g4 g5 hcell x hV1 htk hcs
  go_upto_region 4 with (fail)
  refine name_world ?_
  intro X hX
  have HOX := Lib.hid (show X.ownsRow w.heap.size 81 6 (.slice (some ⟨b1, 0, none⟩) k c1) k (onesC (setSt f q ⟨sc, sr, sh, (sa, sb, sd)⟩) k) from by
    have h0 := own_set HO.out (q * 6 + 0) (.bool sc)
    rw [onesC_set f hq (by omega) _ { f q with c := sc } rfl] at h0
    have h1 := own_set h0 (q * 6 + 1) (.int .u64 sh)
    rw [onesC_set _ hq (by omega) _ { f q with c := sc, h := sh } (by simp only [setSt_at]; rfl), setSt_set] at h1
    have h2 := own_set h1 (q * 6 + 2) (.bool sr)
    rw [onesC_set _ hq (by omega) _ { f q with c := sc, h := sh, r := sr } (by simp only [setSt_at]; rfl), setSt_set] at h2
    have h3 := own_set h2 (q * 6 + 3) (.int .i64 sa)
    rw [onesC_set _ hq (by omega) _ { f q with c := sc, h := sh, r := sr, i := (sa, (f q).i.2) } (by simp only [setSt_at]; rfl), setSt_set] at h3
    have h4 := own_set h3 (q * 6 + 4) (.int .i64 sb)
    rw [onesC_set _ hq (by omega) _ { f q with c := sc, h := sh, r := sr, i := (sa, sb, (f q).i.2.2) } (by simp only [setSt_at]; rfl), setSt_set] at h4
    have h5 := own_set h4 (q * 6 + 5) (.int .i64 sd)
    rw [onesC_set _ hq (by omega) _ ⟨sc, sr, sh, (sa, sb, sd)⟩ (by simp only [setSt_at]; rfl), setSt_set] at h5
    rw [hX]
    exact h5)
  have OX : Only (· = b1) w1 X := by rw [hX]; exact o_set (o_set (o_set (o_set (o_set (o_set (Only.refl _ _) _ _) _ _) _ _) _ _) _ _) _ _
  have V0 := Lib.hid (V0.out.only OX (by omega))
  have V2 := Lib.hid (V2.out.only OX (by omega))
  have HBX : Below w.heap.size w X := HB1.trans (OX.below hz (by rintro j rfl; omega))
  clear hX OX z0 z1 z2 z3 z4 z5 x0 x1 x2 x3 x4 x5 hf V1 HO HB1 hz
  obtain ⟨l0, v0, f0⟩ := V0.out.facts
  obtain ⟨l2, v2, f2⟩ := V2.out.facts
  have y0 : X.cell? ⟨w.heap.size, 0, none⟩ = some (.int .i64 t) := v0 0
  have y1 : X.cell? ⟨w.heap.size, 1, none⟩ = some (.slice A k c) := v0 1
  have y2 : X.cell? ⟨w.heap.size, 2, none⟩ = some (.bool o) := v0 2
  have u0 : X.cell? ⟨w.heap.size + 1 + 1, 0, none⟩ = some (.int .i64 0) := v2 0
  have u1 : X.cell? ⟨w.heap.size + 1 + 1, 1, none⟩ = some (.slice none 0 0) := v2 1
  have u2 : X.cell? ⟨w.heap.size + 1 + 1, 2, none⟩ = some (.bool false) := v2 2
  clear v0 v2
  go_wp2
  refine name_post ?_
  intro Z hZ
  have OZ : Below w.heap.size w Z := by rw [hZ]; (repeat (first | (with_reducible exact Below.refl _ _) | (with_reducible assumption) | (with_reducible refine b_drew ?_) | (with_reducible refine b_drewN ?_ _) | (with_reducible refine b_alloc ?_ _) | ((with_reducible refine b_set ?_ ?_ _); rotate_left; (focus (first | omega | (simp; done) | (simp; omega) | (simp at *; omega)))) | (with_reducible refine b_call ?_ (by with_reducible assumption))))
  have VZ := Lib.hid (show Vr Z (w.heap.size + 1 + 1) 56 #[.int .i64 t, .slice (some ⟨b1, 0, none⟩) k c1, .bool o] from by rw [hZ]; simpa using (((V2.out.far (p := ⟨w.heap.size, 1, none⟩) (by simp; omega) (.slice (some ⟨b1, 0, none⟩) k c1)).set 0 (.int .i64 t)).set 1 (.slice (some ⟨b1, 0, none⟩) k c1)).set 2 (.bool o))
  have HOZ := Lib.hid (show Z.ownsRow w.heap.size 81 6 (.slice (some ⟨b1, 0, none⟩) k c1) k (onesC (setSt f q ⟨sc, sr, sh, (sa, sb, sd)⟩) k) from by
    rw [hZ]
    refine own_only (g := w.heap.size + 1 + 1) (own_only (g := w.heap.size) HOX.out (o_set (Only.refl _ _) 1 (.slice (some ⟨b1, 0, none⟩) k c1)) ?_) (o_set (o_set (o_set (Only.refl _ _) _ _) _ _) _ _) ?_
    · intro e
      have e : some b1 = some _ := e
      injection e with e
      omega
    · intro e
      have e : some b1 = some _ := e
      injection e with e
      omega)
  obtain ⟨q1, q2, q3⟩ := VZ.out.facts
  clear hZ HOX V0 V2 y0 y1 y2 u0 u1 u2
  exact bodyPost_ret (v := .agg #[.int .i64 t, .slice (some ⟨b1, 0, none⟩) k c1, .bool o]) (by simp [results, Try.results49, go_sem, q2]) rfl ⟨_, _, rfl, HOZ.out, OZ⟩
end Go.Proofs.Ytojmkfhinkmhaaa
