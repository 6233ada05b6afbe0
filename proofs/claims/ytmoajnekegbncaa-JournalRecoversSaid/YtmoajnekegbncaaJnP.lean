/-
  WHAT IS PROVED HERE: plain facts on frames of a log: what a reader makes of bytes, of frames, of a part of them, of a frame with one byte changed. No program; no condition beyond what each theorem states.
-/
import Derived.Test.YtmoajnekegbncaaHbG
namespace Go.Proofs.Ytmoajnekegbncaa
set_option linter.unusedVariables false

/-- the label of the checksum -/
def recTxt : ByteArray := { data := #[114, 101, 99, 111, 114, 100] }
@[irreducible] def sumOf (x : List Int) : Int := bytesI (txt recTxt) x
theorem sumOf_eq (x : List Int) : bytesI (txt recTxt) x = sumOf x := by unfold sumOf; rfl
theorem sumOf_u64 (x : List Int) : U64 (sumOf x) := by rw [← sumOf_eq]; exact mixI_u64 _ _
/-- the bytes of a number, the least first -/
def leB : Nat → Int → List Int
  | 0, _ => []
  | k + 1, s => s % 256 :: leB k (s / 256)
theorem leB_len : ∀ (k : Nat) (s : Int), (leB k s).length = k
  | 0, _ => rfl
  | k + 1, s => by simp [leB, leB_len k]
theorem leB_bytes : ∀ (k : Nat) (s : Int), Bytes (leB k s)
  | 0, _ => by intro x hx; cases hx
  | k + 1, s => by
    intro x hx
    rcases List.mem_cons.1 hx with rfl | hx
    · omega
    · exact leB_bytes k _ x hx
theorem leI_leB : ∀ (k : Nat) (s : Int), 0 ≤ s → s < 256 ^ k → leI (leB k s) = s
  | 0, s, h0, h => by
    have h : s < 1 := h
    show (0 : Int) = s
    omega
  | k + 1, s, h0, h => by
    rw [Int.pow_succ] at h
    rw [leB, leI_cons, leI_leB k (s / 256) (by omega) (by omega)]
    omega
theorem leB_get : ∀ (k : Nat) (s : Int) (i : Nat) (h : i < (leB k s).length), (leB k s)[i] = s / 256 ^ i % 256
  | 0, s, i, h => by cases h
  | k + 1, s, 0, h => by show s % 256 = s / 1 % 256; rw [Int.ediv_one]
  | k + 1, s, i + 1, h => by
    show (leB k (s / 256))[i]'(by simpa [leB] using h) = _
    rw [leB_get k (s / 256) i, Int.pow_succ, Int.mul_comm, Int.ediv_ediv_of_nonneg (by omega)]
theorem leB_snoc : ∀ (k : Nat) (s : Int), leB (k + 1) s = leB k s ++ [s / 256 ^ k % 256]
  | 0, s => by show [s % 256] = [s / 1 % 256]; rw [Int.ediv_one]
  | k + 1, s => by
    rw [leB, leB_snoc k (s / 256)]
    show _ = s % 256 :: leB k (s / 256) ++ _
    rw [Int.ediv_ediv_of_nonneg (by omega), Int.pow_succ, Int.mul_comm (256 ^ k : Int) 256]
    rfl
/-- a checksum's bytes -/
def sumB (x : List Int) : List Int := leB 8 (sumOf x)
theorem sumB_len (x : List Int) : (sumB x).length = 8 := leB_len _ _
theorem sumB_leI (x : List Int) : leI (sumB x) = sumOf x := leI_leB 8 _ (sumOf_u64 x).1 (sumOf_u64 x).2
/-- a length's bytes -/
def varI (n : Nat) : List Int := if n < 128 then [(n : Int)] else [((n % 128 + 128 : Nat) : Int), ((n / 128 : Nat) : Int)]
def varL (n : Nat) : Nat := if n < 128 then 1 else 2
theorem varI_len (n : Nat) : (varI n).length = varL n := by unfold varI varL; split <;> rfl
theorem varI_bytes {n : Nat} (h : n < 16384) : Bytes (varI n) := by
  unfold varI
  intro x hx
  split at hx <;> simp at hx <;> omega
/-- a frame -/
def frameI (x : List Int) : List Int := varI x.length ++ (sumB x ++ x)
def frameL (x : List Int) : Nat := varL x.length + 8 + x.length
theorem frameI_len (x : List Int) : (frameI x).length = frameL x := by
  unfold frameI frameL
  rw [List.length_append, List.length_append, varI_len, sumB_len]
  omega
theorem frameL_bd (x : List Int) : 9 + x.length ≤ frameL x ∧ frameL x ≤ 10 + x.length := by unfold frameL varL; split <;> omega
theorem frameI_bytes {x : List Int} (hx : Bytes x) (h : x.length < 16384) : Bytes (frameI x) := by
  intro y hy
  simp only [frameI, List.mem_append] at hy
  rcases hy with hy | hy | hy
  · exact varI_bytes h y hy
  · exact leB_bytes _ _ y hy
  · exact hx y hy
def framesI (l : List (List Int)) : List Int := l.flatMap frameI
theorem framesI_cons (x : List Int) (l : List (List Int)) : framesI (x :: l) = frameI x ++ framesI l := rfl
theorem framesI_append (a b : List (List Int)) : framesI (a ++ b) = framesI a ++ framesI b := by simp [framesI]
theorem framesI_one (x : List Int) : framesI [x] = frameI x := by simp [framesI]
/-- every record is of bytes and not too long -/
def Recs (m : Nat) (l : List (List Int)) : Prop := ∀ x ∈ l, Bytes x ∧ x.length ≤ m
theorem framesI_bytes {l : List (List Int)} (h : Recs 16383 l) : Bytes (framesI l) := by
  intro y hy
  obtain ⟨x, hx, hy⟩ := List.mem_flatMap.1 hy
  exact frameI_bytes (h x hx).1 (by have := (h x hx).2; omega) y hy
theorem Recs.mono {m k : Nat} {l : List (List Int)} (h : Recs m l) (hk : m ≤ k) : Recs k l := fun x hx => ⟨(h x hx).1, Nat.le_trans (h x hx).2 hk⟩
theorem Recs.take {m : Nat} {l : List (List Int)} (h : Recs m l) (k : Nat) : Recs m (l.take k) := fun x hx => h x (List.mem_of_mem_take hx)
theorem Recs.drop {m : Nat} {l : List (List Int)} (h : Recs m l) (k : Nat) : Recs m (l.drop k) := fun x hx => h x (List.mem_of_mem_drop hx)
theorem Recs.append {m : Nat} {a b : List (List Int)} (h : Recs m a) (k : Recs m b) : Recs m (a ++ b) := fun x hx => (List.mem_append.1 hx).elim (h x) (k x)
theorem framesI_le {m : Nat} : ∀ {l : List (List Int)}, Recs m l → (framesI l).length ≤ l.length * (m + 10)
  | [], _ => by simp [framesI]
  | x :: l, h => by
    have h1 := framesI_le (l := l) (fun y hy => h y (List.mem_cons_of_mem _ hy))
    have h2 := (h x (List.mem_cons_self ..)).2
    have h3 := frameL_bd x
    rw [framesI_cons, List.length_append, frameI_len, List.length_cons, Nat.add_mul]
    omega

/-! ### What a reader makes of bytes -/
/-- the length, its digits, the error -/
def lenI : List Int → Nat × Nat × Int
  | [] => (0, 0, 25)
  | [b] => if b < 128 then (b.toNat, 1, 0) else (0, 0, 25)
  | b :: c :: _ => if b < 128 then (b.toNat, 1, 0) else if 128 ≤ c then (0, 0, 8) else if c = 0 ∨ 4000 < b - 128 + 128 * c then (0, 0, 8) else ((b - 128 + 128 * c).toNat, 2, 0)
inductive Stp where
  | torn | form | sum
  | one (x : List Int) (m : Nat)
def stepI (L : List Int) : Stp :=
  if (lenI L).2.2 = 25 then .torn else if (lenI L).2.2 = 8 then .form else
  if L.length < (lenI L).2.1 + 8 + (lenI L).1 then .torn else
  if (L.drop (lenI L).2.1).take 8 = sumB ((L.drop ((lenI L).2.1 + 8)).take (lenI L).1) then .one ((L.drop ((lenI L).2.1 + 8)).take (lenI L).1) ((lenI L).2.1 + 8 + (lenI L).1)
  else if (lenI L).2.1 + 8 + (lenI L).1 < L.length then .sum else .torn
inductive Opens : List Int → List (List Int) → Int → Prop where
  | nil : Opens [] [] 0
  | torn {L : List Int} : stepI L = .torn → Opens L [] 0
  | form {L : List Int} : stepI L = .form → Opens L [] 8
  | sum {L : List Int} : stepI L = .sum → Opens L [] 26
  | one {L x : List Int} {m : Nat} {xs : List (List Int)} {e : Int} : stepI L = .one x m → Opens (L.drop m) xs e → Opens L (x :: xs) e
theorem step_nil : stepI [] = .torn := rfl
theorem opens_det {L : List Int} {xs : List (List Int)} {e : Int} (h : Opens L xs e) : ∀ {ys : List (List Int)} {f : Int}, Opens L ys f → xs = ys ∧ e = f := by
  induction h with
  | nil =>
    intro ys f k
    cases k with
    | nil => exact ⟨rfl, rfl⟩
    | torn _ => exact ⟨rfl, rfl⟩
    | form h => rw [step_nil] at h; cases h
    | sum h => rw [step_nil] at h; cases h
    | one h _ => rw [step_nil] at h; cases h
  | torn h =>
    intro ys f k
    cases k with
    | nil => exact ⟨rfl, rfl⟩
    | torn _ => exact ⟨rfl, rfl⟩
    | form k => rw [h] at k; cases k
    | sum k => rw [h] at k; cases k
    | one k _ => rw [h] at k; cases k
  | form h =>
    intro ys f k
    cases k with
    | nil => rw [step_nil] at h; cases h
    | torn k => rw [h] at k; cases k
    | form k => exact ⟨rfl, rfl⟩
    | sum k => rw [h] at k; cases k
    | one k _ => rw [h] at k; cases k
  | sum h =>
    intro ys f k
    cases k with
    | nil => rw [step_nil] at h; cases h
    | torn k => rw [h] at k; cases k
    | form k => rw [h] at k; cases k
    | sum k => exact ⟨rfl, rfl⟩
    | one k _ => rw [h] at k; cases k
  | one h _ ih =>
    intro ys f k
    cases k with
    | nil => rw [step_nil] at h; cases h
    | torn k => rw [h] at k; cases k
    | form k => rw [h] at k; cases k
    | sum k => rw [h] at k; cases k
    | one k k2 =>
      rw [h] at k
      injection k with k3 k4
      subst k3 k4
      obtain ⟨h1, h2⟩ := ih k2
      exact ⟨by rw [h1], h2⟩
/-- what the length's reader gives, read backwards -/
theorem lenI_ok {L : List Int} (hL : Bytes L) (h1 : (lenI L).2.2 ≠ 25) (h2 : (lenI L).2.2 ≠ 8) : (lenI L).2.1 = varL (lenI L).1 ∧ L.take (lenI L).2.1 = varI (lenI L).1 ∧ (lenI L).1 ≤ 4000 ∧ (lenI L).2.1 ≤ L.length := by
  rcases L with _ | ⟨b, _ | ⟨c, L⟩⟩
  · exact absurd rfl h1
  · have hb := hL b (List.mem_cons_self ..)
    unfold lenI at *
    by_cases h : b < 128
    · simp only [if_pos h] at *
      have e : b.toNat < 128 := by omega
      refine ⟨by unfold varL; rw [if_pos e], ?_, by omega, by simp⟩
      unfold varI
      rw [if_pos e]
      simp
      omega
    · simp only [if_neg h] at h1
      exact absurd rfl h1
  · have hb := hL b (List.mem_cons_self ..)
    have hc := hL c (List.mem_cons_of_mem _ (List.mem_cons_self ..))
    unfold lenI at *
    by_cases h : b < 128
    · simp only [if_pos h] at *
      have e : b.toNat < 128 := by omega
      refine ⟨by unfold varL; rw [if_pos e], ?_, by omega, by simp⟩
      unfold varI
      rw [if_pos e]
      simp
      omega
    · by_cases h' : 128 ≤ c
      · simp only [if_neg h, if_pos h'] at h2
        exact absurd rfl h2
      · by_cases h3 : c = 0 ∨ 4000 < b - 128 + 128 * c
        · simp only [if_neg h, if_neg h', if_pos h3] at h2
          exact absurd rfl h2
        · simp only [if_neg h, if_neg h', if_neg h3] at *
          have e : ¬ (b - 128 + 128 * c).toNat < 128 := by omega
          refine ⟨by unfold varL; rw [if_neg e], ?_, by omega, by simp⟩
          unfold varI
          rw [if_neg e]
          simp
          omega
/-- and forwards -/
theorem lenI_var {n : Nat} (h : n ≤ 4000) (r : List Int) : lenI (varI n ++ r) = (n, varL n, 0) := by
  unfold varI varL
  by_cases e : n < 128
  · rw [if_pos e, if_pos e]
    rcases r with _ | ⟨c, r⟩
    · simp [lenI]; omega
    · simp [lenI]; omega
  · rw [if_neg e, if_neg e]
    simp only [List.cons_append, List.nil_append, lenI]
    rw [if_neg (by omega), if_neg (by omega), if_neg (by omega)]
    simp
    omega
theorem lenI_big {n : Nat} (h1 : 4000 < n) (h2 : n < 16384) (r : List Int) : lenI (varI n ++ r) = (0, 0, 8) := by
  unfold varI
  rw [if_neg (by omega)]
  simp only [List.cons_append, List.nil_append, lenI]
  rw [if_neg (by omega), if_neg (by omega), if_pos (by omega)]
theorem step_rec {L x : List Int} {m : Nat} (hL : Bytes L) (h : stepI L = .one x m) : L.take m = frameI x ∧ x.length ≤ 4000 ∧ m = frameL x ∧ m ≤ L.length := by
  unfold stepI at h
  by_cases h1 : (lenI L).2.2 = 25
  · rw [if_pos h1] at h; cases h
  by_cases h2 : (lenI L).2.2 = 8
  · rw [if_neg h1, if_pos h2] at h; cases h
  by_cases h3 : L.length < (lenI L).2.1 + 8 + (lenI L).1
  · rw [if_neg h1, if_neg h2, if_pos h3] at h; cases h
  rw [if_neg h1, if_neg h2, if_neg h3] at h
  obtain ⟨g1, g2, g3, g4⟩ := lenI_ok hL h1 h2
  generalize (lenI L).1 = n at *
  generalize (lenI L).2.1 = d at *
  by_cases h4 : (L.drop d).take 8 = sumB ((L.drop (d + 8)).take n)
  · rw [if_pos h4] at h
    injection h with h5 h6
    subst h6
    have hl : x.length = n := by
      rw [← h5, List.length_take, List.length_drop]
      omega
    refine ⟨?_, by omega, by unfold frameL; rw [hl, g1], by omega⟩
    unfold frameI
    rw [hl, ← g2, ← h5, ← h4, h5]
    rw [← h5, show d + 8 + n = d + (8 + n) from by omega, List.take_add, List.take_add, List.drop_drop]
  · rw [if_neg h4] at h
    split at h <;> cases h
theorem step_frame {x : List Int} (h : x.length ≤ 4000) (r : List Int) : stepI (frameI x ++ r) = .one x (frameL x) := by
  have e : frameI x ++ r = varI x.length ++ (sumB x ++ (x ++ r)) := by simp [frameI]
  have hl : (frameI x ++ r).length = frameL x + r.length := by rw [List.length_append, frameI_len]
  have e1 : (varI x.length ++ (sumB x ++ (x ++ r))).drop (varL x.length) = sumB x ++ (x ++ r) := by
    rw [← varI_len, List.drop_left]
  have e2 : (varI x.length ++ (sumB x ++ (x ++ r))).drop (varL x.length + 8) = x ++ r := by
    rw [← List.drop_drop, e1]
    have := sumB_len x
    rw [← this, List.drop_left]
  unfold stepI
  rw [hl, e, lenI_var h]
  simp only
  rw [if_neg (by omega), if_neg (by omega), if_neg (by unfold frameL; omega), e1, e2, List.take_left, if_pos ?_]
  · rfl
  · have := sumB_len x
    conv => lhs; rw [← this, List.take_left]
theorem step_big {x : List Int} (h1 : 4000 < x.length) (h2 : x.length < 16384) : stepI (frameI x) = .form := by
  unfold stepI frameI
  rw [lenI_big h1 h2]
  rfl
theorem lenI_part {n j : Nat} (h : n ≤ 4000) (r : List Int) (hj : j < varL n) : (lenI ((varI n ++ r).take j)).2.2 = 25 := by
  unfold varI varL at *
  by_cases e : n < 128
  · rw [if_pos e] at *
    obtain rfl : j = 0 := by omega
    rfl
  · rw [if_neg e] at *
    have : j = 0 ∨ j = 1 := by omega
    rcases this with rfl | rfl
    · rfl
    · simp only [List.cons_append, List.nil_append, List.take_succ_cons, List.take_zero, lenI]
      rw [if_neg (by omega)]
/-- a part of a frame is torn -/
theorem step_part {x : List Int} (h : x.length ≤ 4000) (r : List Int) {j : Nat} (hj : j < frameL x) : stepI ((frameI x ++ r).take j) = .torn := by
  have e : frameI x ++ r = varI x.length ++ (sumB x ++ (x ++ r)) := by simp [frameI]
  by_cases h1 : j < varL x.length
  · unfold stepI
    rw [e, if_pos (lenI_part h _ h1)]
  · have e2 : (frameI x ++ r).take j = varI x.length ++ (sumB x ++ (x ++ r)).take (j - varL x.length) := by
      rw [e, List.take_append, List.take_of_length_le (by rw [varI_len]; omega), varI_len]
    have hl : ((frameI x ++ r).take j).length ≤ j := List.length_take_le _ _
    unfold stepI
    rw [e2] at *
    rw [lenI_var h]
    simp only
    rw [if_neg (by omega), if_neg (by omega), if_pos (by unfold frameL at hj; omega)]
theorem opens_frames : ∀ {xs : List (List Int)}, Recs 4000 xs → ∀ {R : List Int} {ys : List (List Int)} {e : Int}, Opens R ys e → Opens (framesI xs ++ R) (xs ++ ys) e
  | [], _, _, _, _, h => h
  | x :: xs, hx, R, ys, e, h => by
    rw [framesI_cons, List.append_assoc]
    refine .one (step_frame (hx x (List.mem_cons_self ..)).2 _) ?_
    rw [← frameI_len, List.drop_left]
    exact opens_frames (fun y hy => hx y (List.mem_cons_of_mem _ hy)) h
theorem opens_all {xs : List (List Int)} (h : Recs 4000 xs) : Opens (framesI xs) xs 0 := by
  have := opens_frames h Opens.nil
  simpa using this
/-- the records of what opens are not too long -/
theorem opens_recs {L : List Int} {xs : List (List Int)} {e : Int} (h : Opens L xs e) : Bytes L → Recs 4000 xs := by
  induction h with
  | nil => intro _ x hx; cases hx
  | torn _ => intro _ x hx; cases hx
  | form _ => intro _ x hx; cases hx
  | sum _ => intro _ x hx; cases hx
  | one h _ ih =>
    intro hL x hx
    rcases List.mem_cons.1 hx with rfl | hx
    · obtain ⟨h1, h2, _, _⟩ := step_rec hL h
      refine ⟨fun y hy => ?_, h2⟩
      have : y ∈ frameI x := by simp [frameI, hy]
      rw [← h1] at this
      exact hL y (List.mem_of_mem_take this)
    · exact ih (hL.drop _) x hx
/-- The records of a prefix are a prefix. -/
theorem opens_prefix {M : List Int} {ys : List (List Int)} {f : Int} (h : Opens M ys f) : f = 0 → ∀ {L : List Int} {k : Nat} {xs : List (List Int)} {e : Int}, Bytes L → M = L.take k → Opens L xs e → e = 0 → ys <+: xs := by
  induction h with
  | nil => intros; exact List.nil_prefix
  | torn _ => intros; exact List.nil_prefix
  | form _ => intro h; cases h
  | sum _ => intro h; cases h
  | @one M x m ys f h _ ih =>
    intro hf L k xs e hL hM hO he
    subst hM
    obtain ⟨h1, h2, h3, h4⟩ := step_rec (hL.take k) h
    have hk : m ≤ k := by rw [List.length_take] at h4; omega
    have e1 : L.take m = frameI x := by rw [← h1, List.take_take, Nat.min_eq_left hk]
    have e2 : L = frameI x ++ L.drop m := by rw [← e1, List.take_append_drop]
    have h5 : stepI L = .one x m := by
      have := step_frame h2 (L.drop m)
      rw [← e2, ← h3] at this
      exact this
    have e3 : (L.take k).drop m = (L.drop m).take (k - m) := by rw [List.drop_take]
    have e4 := e3
    cases hO with
    | nil => rw [step_nil] at h5; cases h5
    | torn g => rw [h5] at g; cases g
    | form g => rw [h5] at g; cases g
    | sum g => rw [h5] at g; cases g
    | one g k2 =>
      rw [h5] at g
      injection g with g3 g4
      subst g3 g4
      exact List.cons_prefix_cons.2 ⟨rfl, ih hf (hL.drop _) e3 k2 he⟩

/-! ### Crash -/
/-- how many of the first i frames lie within k bytes, as the law counts them -/
def whole (k : Nat) (xs : List (List Int)) : Nat → Nat
  | 0 => 0
  | i + 1 => if (framesI (xs.take (i + 1))).length ≤ k then whole k xs i + 1 else whole k xs i
theorem whole_le (k : Nat) (xs : List (List Int)) : ∀ i, whole k xs i ≤ i
  | 0 => Nat.le_refl _
  | i + 1 => by
    have := whole_le k xs i
    unfold whole
    split <;> omega
theorem whole_cons (k : Nat) (x : List Int) (xs : List (List Int)) : ∀ i, whole k (x :: xs) (i + 1) = if frameL x ≤ k then whole (k - frameL x) xs i + 1 else 0
  | 0 => by
    unfold whole
    simp only [List.take_succ_cons, List.take_zero, framesI_one, frameI_len]
    rfl
  | i + 1 => by
    have ih := whole_cons k x xs i
    have e1 : (framesI ((x :: xs).take (i + 1 + 1))).length = frameL x + (framesI (xs.take (i + 1))).length := by
      rw [List.take_succ_cons, framesI_cons, List.length_append, frameI_len]
    rw [whole, ih, e1]
    by_cases h : frameL x ≤ k
    · rw [if_pos h, if_pos h, whole]
      by_cases h2 : (framesI (xs.take (i + 1))).length ≤ k - frameL x
      · rw [if_pos (by omega), if_pos h2]
      · rw [if_neg (by omega), if_neg h2]
    · rw [if_neg h, if_neg h, if_neg (by omega)]
theorem opens_crash : ∀ (xs : List (List Int)) (k : Nat), Recs 4000 xs → Opens ((framesI xs).take k) (xs.take (whole k xs xs.length)) 0
  | [], k, _ => by
    have : (framesI []).take k = [] := by simp [framesI]
    rw [this]
    exact .nil
  | x :: xs, k, h => by
    have hx := (h x (List.mem_cons_self ..)).2
    rw [List.length_cons, whole_cons]
    by_cases hk : frameL x ≤ k
    · rw [if_pos hk, List.take_succ_cons]
      have e : (framesI (x :: xs)).take k = frameI x ++ (framesI xs).take (k - frameL x) := by
        rw [framesI_cons, List.take_append, List.take_of_length_le (by rw [frameI_len]; exact hk), frameI_len]
      rw [e]
      refine .one (step_frame hx _) ?_
      rw [← frameI_len, List.drop_left, frameI_len]
      exact opens_crash xs _ (fun y hy => h y (List.mem_cons_of_mem _ hy))
    · rw [if_neg hk, List.take_zero, framesI_cons]
      exact .torn (step_part hx _ (by omega))

/-! ### One byte changed -/
theorem sumB_inj {x y : List Int} (h : sumB x = sumB y) : sumOf x = sumOf y := by rw [← sumB_leI, ← sumB_leI, h]
theorem sumOf_set {x : List Int} (hx : Bytes x) {k : Nat} (hk : k < x.length) {v : Int} (hv : 0 ≤ v ∧ v ≤ 255) (hne : v ≠ x[k]) : sumOf (x.set k v) ≠ sumOf x := by
  intro h
  rw [← sumOf_eq, ← sumOf_eq] at h
  have hy : Bytes (x.set k v) := fun y hy => by
    rcases List.mem_or_eq_of_mem_set hy with h | h
    · exact hx y h
    · rw [h]; exact hv
  have h1 := bytes_group (lab := txt recTxt) hy hx (by simp) (k / 8) (fun i hi => by
    rw [List.getElem?_set_ne (by omega)])
  rw [h] at h1
  have h2 : decide (x.set k v = x) = true := by rw [← h1]; simp
  have h3 := congrArg (fun (l : List Int) => l[k]?) (of_decide_eq_true h2)
  simp only [List.getElem?_set_self hk, List.getElem?_eq_getElem hk, Option.some.injEq] at h3
  exact hne h3
theorem step_set {x : List Int} (hb : Bytes x) (h : x.length ≤ 4000) {n : Nat} (h1 : varL x.length ≤ n) (h2 : n < frameL x) {v : Int} (hv : 0 ≤ v ∧ v ≤ 255) (hne : v ≠ (frameI x)[n]'(by rw [frameI_len]; exact h2)) (r : List Int) (hr : r ≠ []) : stepI ((frameI x).set n v ++ r) = .sum := by
  have hr1 : 0 < r.length := List.length_pos_iff.2 hr
  have hsl := sumB_len x
  have hvl := varI_len x.length
  by_cases hn : n < varL x.length + 8
  · obtain ⟨q, rfl⟩ : ∃ q, n = varL x.length + q := ⟨n - varL x.length, by omega⟩
    have hq : q < (sumB x).length := by omega
    have e : (frameI x).set (varL x.length + q) v = varI x.length ++ ((sumB x).set q v ++ x) := by
      unfold frameI
      rw [List.set_append_right _ _ (by omega), List.set_append_left _ _ (by omega)]
      rw [hvl, Nat.add_sub_cancel_left]
    have hne' : v ≠ (sumB x)[q] := by
      intro h
      apply hne
      rw [h]
      unfold frameI
      rw [List.getElem_append_right (by omega), List.getElem_append_left (by omega)]
      simp only [hvl, Nat.add_sub_cancel_left]
    have e0 : (frameI x).set (varL x.length + q) v ++ r = varI x.length ++ ((sumB x).set q v ++ (x ++ r)) := by rw [e]; simp
    have hl : ((frameI x).set (varL x.length + q) v ++ r).length = frameL x + r.length := by rw [List.length_append, List.length_set, frameI_len]
    have hs8 : ((sumB x).set q v).length = 8 := by rw [List.length_set, hsl]
    have e1 : (varI x.length ++ ((sumB x).set q v ++ (x ++ r))).drop (varL x.length) = (sumB x).set q v ++ (x ++ r) := by rw [← hvl, List.drop_left]
    have e2 : (varI x.length ++ ((sumB x).set q v ++ (x ++ r))).drop (varL x.length + 8) = x ++ r := by
      rw [← List.drop_drop, e1, ← hs8, List.drop_left]
    have e3 : ((sumB x).set q v ++ (x ++ r)).take 8 = (sumB x).set q v := by
      conv => lhs; rw [← hs8, List.take_left]
    unfold stepI
    rw [hl, e0, lenI_var h]
    simp only
    rw [if_neg (by omega), if_neg (by omega), if_neg (by unfold frameL; omega), e1, e2, List.take_left, e3, if_neg, if_pos (by unfold frameL; omega)]
    intro h3
    have h4 := congrArg (fun (l : List Int) => l[q]?) h3
    simp only [List.getElem?_set_self hq, List.getElem?_eq_getElem hq, Option.some.injEq] at h4
    exact hne' h4
  · obtain ⟨q, rfl⟩ : ∃ q, n = varL x.length + 8 + q := ⟨n - (varL x.length + 8), by omega⟩
    have hq : q < x.length := by unfold frameL at h2; omega
    have e : (frameI x).set (varL x.length + 8 + q) v = varI x.length ++ (sumB x ++ x.set q v) := by
      unfold frameI
      rw [List.set_append_right _ _ (by omega), List.set_append_right _ _ (by omega)]
      rw [hvl, hsl, show varL x.length + 8 + q - varL x.length - 8 = q from by omega]
    have hne' : v ≠ x[q] := by
      intro h
      apply hne
      rw [h]
      unfold frameI
      rw [List.getElem_append_right (by omega), List.getElem_append_right (by omega)]
      simp only [hvl, hsl, show varL x.length + 8 + q - varL x.length - 8 = q from by omega]
    have e0 : (frameI x).set (varL x.length + 8 + q) v ++ r = varI x.length ++ (sumB x ++ (x.set q v ++ r)) := by rw [e]; simp
    have hl : ((frameI x).set (varL x.length + 8 + q) v ++ r).length = frameL x + r.length := by rw [List.length_append, List.length_set, frameI_len]
    have hxl : (x.set q v).length = x.length := List.length_set
    have e1 : (varI x.length ++ (sumB x ++ (x.set q v ++ r))).drop (varL x.length) = sumB x ++ (x.set q v ++ r) := by rw [← hvl, List.drop_left]
    have e2 : (varI x.length ++ (sumB x ++ (x.set q v ++ r))).drop (varL x.length + 8) = x.set q v ++ r := by
      rw [← List.drop_drop, e1]
      conv => lhs; rw [← hsl, List.drop_left]
    have e3 : (sumB x ++ (x.set q v ++ r)).take 8 = sumB x := by
      conv => lhs; rw [← hsl, List.take_left]
    have e4 : (x.set q v ++ r).take x.length = x.set q v := by
      conv => lhs; rw [← hxl, List.take_left]
    unfold stepI
    rw [hl, e0, lenI_var h]
    simp only
    rw [if_neg (by omega), if_neg (by omega), if_neg (by unfold frameL; omega), e1, e2, e3, e4, if_neg, if_pos (by unfold frameL; omega)]
    intro h3
    exact sumOf_set hb hq hv hne' (sumB_inj h3).symm
/-- Opening a log of which one frame, not the last, has one byte of its checksum or payload changed. -/
theorem opens_corrupt {xs : List (List Int)} (h : Recs 4000 xs) {k : Nat} (hk : k + 1 < xs.length) {n : Nat} (h1 : varL (xs[k]).length ≤ n) (h2 : n < frameL xs[k]) {v : Int} (hv : 0 ≤ v ∧ v ≤ 255) (hne : v ≠ (frameI xs[k])[n]'(by rw [frameI_len]; exact h2)) :
    Opens (framesI (xs.take k) ++ ((frameI xs[k]).set n v ++ framesI (xs.drop (k + 1)))) (xs.take k ++ []) 26 := by
  have hm := h xs[k] (List.getElem_mem _)
  refine opens_frames (h.take k) (.sum (step_set hm.1 hm.2 h1 h2 hv hne _ ?_))
  rw [List.drop_eq_getElem_cons (by omega), framesI_cons]
  intro e
  have e2 := congrArg List.length e
  rw [List.length_append, frameI_len] at e2
  have := frameL_bd xs[k + 1]
  simp at e2
  omega
end Go.Proofs.Ytmoajnekegbncaa
