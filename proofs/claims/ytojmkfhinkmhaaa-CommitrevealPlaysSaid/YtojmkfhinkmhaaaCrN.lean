/-
  WHAT IS PROVED HERE: plain facts on rounds: a player's part depends on its own calls alone; who revealed. No condition beyond what each theorem states.
-/
import Derived.Test.YtojmkfhinkmhaaaCrM
namespace Go.Proofs.Ytojmkfhinkmhaaa
set_option linter.unusedVariables false
open Go.ChangeShapes Go.WideShapes Go.ChangeAt Go.RowKit

theorem does_q (g : Nat) (T d pl a b c n : Int) (r : RdV) (w : World) (E : Int) (r' : RdV) (hG : ActG ⟨d, pl, (a, b, c), n⟩) (hE : dsE r T ⟨d, pl, (a, b, c), n⟩ = E) (hr : dsR r T ⟨d, pl, (a, b, c), n⟩ = r') (h : Cr w g r) (hk : r.k ≤ 8) :
    Calls Try.prog 23 #[.pointer (some ⟨g, 0, none⟩), .int .i64 T, .agg #[.int .i64 d, .int .i64 pl, .int .i64 a, .int .i64 b, .int .i64 c, .int .u64 n]] w (RetCr w g r E r') := by
  subst hE hr
  obtain ⟨hd, hp, hn, _⟩ := hG
  simp only at hd hp hn
  rcases hd with rfl | rfl | rfl
  · exact does_0 g T pl a b c n r w h hk ⟨hn.1, by omega⟩
  · exact does_1 g T pl a b c n r w h hk ⟨hn.1, by omega⟩
  · exact does_2 g T pl a b c n r w h

theorem dsR_0 (r : RdV) (T p : Int) (x : Inp) (n : Int) : dsR r T ⟨0, p, x, n⟩ = cmS r p (cmtI p T (okI x) n) := if_pos rfl
theorem dsR_1 (r : RdV) (T p : Int) (x : Inp) (n : Int) : dsR r T ⟨1, p, x, n⟩ = rvS r p x n := (if_neg (by show ¬ (1 : Int) = 0; omega)).trans (if_pos rfl)
theorem dsR_2 (r : RdV) (T p : Int) (x : Inp) (n : Int) : dsR r T ⟨2, p, x, n⟩ = closeR r := (if_neg (by show ¬ (2 : Int) = 0; omega)).trans (if_neg (by show ¬ (2 : Int) = 1; omega))
theorem dsE_0 (r : RdV) (T p : Int) (x : Inp) (n : Int) : dsE r T ⟨0, p, x, n⟩ = cmE r p := if_pos rfl
theorem dsE_1 (r : RdV) (T p : Int) (x : Inp) (n : Int) : dsE r T ⟨1, p, x, n⟩ = rvE r p x n := (if_neg (by show ¬ (1 : Int) = 0; omega)).trans (if_pos rfl)
theorem dsE_2 (r : RdV) (T p : Int) (x : Inp) (n : Int) : dsE r T ⟨2, p, x, n⟩ = 0 := (if_neg (by show ¬ (2 : Int) = 0; omega)).trans (if_neg (by show ¬ (2 : Int) = 1; omega))
theorem toNat_q (q : Nat) : ((q : Int)).toNat = q := rfl
theorem dsR_k (r : RdV) (T : Int) (a : ActV) : (dsR r T a).k = r.k := by
  unfold dsR cmS rvS
  split
  · split <;> rfl
  · split
    · split <;> rfl
    · rfl
theorem dsR_t (r : RdV) (T : Int) (a : ActV) : (dsR r T a).t = r.t := by
  unfold dsR cmS rvS
  split
  · split <;> rfl
  · split
    · split <;> rfl
    · rfl
/-- Two rounds agree in all that player q's part reads. -/
structure Rel (q : Nat) (r s : RdV) : Prop where
  k : r.k = s.k
  t : r.t = s.t
  o : r.o = s.o
  st : r.st q = s.st q
theorem cmE_rel {q : Nat} {r s : RdV} (h : Rel q r s) : cmE r q = cmE s q := by
  unfold cmE
  rw [h.k, h.o, show ((q : Int)).toNat = q from rfl, h.st]
theorem rvE_rel {q : Nat} {r s : RdV} (h : Rel q r s) (x : Inp) (n : Int) : rvE r q x n = rvE s q x n := by
  unfold rvE
  rw [h.k, h.o, h.t, show ((q : Int)).toNat = q from rfl, h.st]
theorem same_ds {q : Nat} {r s : RdV} (h : Rel q r s) (T : Int) {a : ActV} (ha : a.d = 2 ∨ a.p = q) (hG : ActG a) : dsE r T a = dsE s T a ∧ Rel q (dsR r T a) (dsR s T a) := by
  obtain ⟨d, p, x, n⟩ := a
  simp only at ha
  rcases hG.hd with hd | hd | hd
  · simp only at hd
    subst hd
    obtain rfl : p = q := by omega
    rw [dsE_0, dsE_0, dsR_0, dsR_0]
    refine ⟨cmE_rel h, ?_⟩
    generalize cmtI q T (okI x) n = C
    unfold cmS
    rw [cmE_rel h, toNat_q]
    split
    · refine ⟨h.k, h.t, h.o, ?_⟩
      unfold cmR
      simp only [setSt_at, h.st]
    · exact h
  · simp only at hd
    subst hd
    obtain rfl : p = q := by omega
    rw [dsE_1, dsE_1, dsR_1, dsR_1]
    refine ⟨rvE_rel h x n, ?_⟩
    unfold rvS
    rw [rvE_rel h, toNat_q]
    split
    · refine ⟨h.k, h.t, h.o, ?_⟩
      unfold rvR
      simp only [setSt_at, h.st]
    · exact h
  · simp only at hd
    subst hd
    rw [dsE_2, dsE_2, dsR_2, dsR_2]
    exact ⟨rfl, ⟨h.k, h.t, rfl, h.st⟩⟩
theorem setSt_ne {f : Nat → StV} {q p : Nat} {s : StV} (h : q ≠ p) : setSt f p s q = f q := if_neg h
theorem other_ds {q : Nat} {r s : RdV} (h : Rel q r s) (T : Int) {a : ActV} (ha : ¬ a.d = 2) (hp : ¬ a.p = q) (hG : ActG a) : Rel q (dsR r T a) s := by
  obtain ⟨d, p, x, n⟩ := a
  simp only at ha hp
  rcases hG.hd with hd | hd | hd
  · simp only at hd
    subst hd
    rw [dsR_0]
    generalize cmtI p T (okI x) n = C
    unfold cmS
    split
    · rename_i he
      obtain ⟨j, rfl, _⟩ := cm_good he
      exact ⟨h.k, h.t, h.o, (setSt_ne (by rw [toNat_q]; omega)).trans h.st⟩
    · exact h
  · simp only at hd
    subst hd
    rw [dsR_1]
    unfold rvS
    split
    · rename_i he
      obtain ⟨j, rfl, _⟩ := rv_good he
      exact ⟨h.k, h.t, h.o, (setSt_ne (by rw [toNat_q]; omega)).trans h.st⟩
    · exact h
  · exact absurd hd ha
theorem rel_res {q : Nat} {r s : RdV} (h : Rel q r s) (last : List Inp) : resV r last q = resV s last q := by
  unfold resV
  rw [h.st]
theorem mem_resF (r : RdV) (k q : Nat) : ((q : Int) ∈ resF r k) ↔ (q < k ∧ (r.st q).r = false) := by
  unfold resF
  simp only [List.mem_map, List.mem_filter, List.mem_range]
  constructor
  · rintro ⟨a, ⟨h1, h2⟩, h3⟩
    obtain rfl : a = q := by omega
    exact ⟨h1, by simpa using h2⟩
  · rintro ⟨h1, h2⟩
    exact ⟨q, ⟨h1, by simpa using h2⟩, rfl⟩
theorem rel_fau {q : Nat} {r s : RdV} (h : Rel q r s) (k : Nat) : decide ((q : Int) ∈ resF r k) = decide ((q : Int) ∈ resF s k) := by
  have : ((q : Int) ∈ resF r k) ↔ ((q : Int) ∈ resF s k) := by rw [mem_resF, mem_resF, h.st]
  simp only [this]
theorem resL_get (r : RdV) (last : List Inp) {k q : Nat} (h : q < k) : (resL r last k)[q]? = some (resV r last q) := by
  unfold resL
  rw [List.getElem?_map, List.getElem?_range h]
  rfl
end Go.Proofs.Ytojmkfhinkmhaaa
