/-
  WHAT IS PROVED HERE: plain facts on a round that is played honestly. No condition beyond what each theorem states.
-/
import Derived.Test.YtojmkfhinkmhaaaCrQ
namespace Go.Proofs.Ytojmkfhinkmhaaa
set_option linter.unusedVariables false
open Go.ChangeShapes Go.WideShapes Go.ChangeAt Go.RowKit

/-- the i-th player's number -/
def sg (n t i : Nat) : Nat := if i + t < n then i + t else i + t - n
theorem sg_lt {n t i : Nat} (ht : t < n) (hi : i < n) : sg n t i < n := by unfold sg; split <;> omega
theorem sg_inj {n t i j : Nat} (ht : t < n) (hi : i < n) (hj : j < n) (h : sg n t i = sg n t j) : i = j := by
  unfold sg at h
  split at h <;> split at h <;> omega
theorem sg_surj {n t p : Nat} (ht : t < n) (hp : p < n) : ∃ j, j < n ∧ sg n t j = p := by
  by_cases h : t ≤ p
  · exact ⟨p - t, by omega, by unfold sg; rw [if_pos (by omega)]; omega⟩
  · exact ⟨p + n - t, by omega, by unfold sg; rw [if_neg (by omega)]; omega⟩
theorem sg_mod {n t i : Nat} (ht : t < n) (hi : i < n) : ((i : Int) + (t : Int)) % (n : Int) = (sg n t i : Nat) := by
  unfold sg
  split
  · rw [Int.emod_eq_of_lt (by omega) (by omega)]
    omega
  · have h : ((i : Int) + (t : Int)) = ((i + t - n : Nat) : Int) + (n : Int) * 1 := by omega
    rw [h, Int.add_mul_emod_self_left, Int.emod_eq_of_lt (by omega) (by omega)]
/-- the nonce of player p -/
def nuI (N : List Int) (p : Nat) : Int := N.getD p p
def xI (X : List Inp) (p : Nat) : Inp := X.getD p (0, 0, 0)
structure Hon0 (X : List Inp) (N : List Int) (t : Int) (n τ i : Nat) (r : RdV) : Prop where
  fk : r.k = n
  ft : r.t = t
  fo : r.o = false
  fc : ∀ p, p < n → ((r.st p).c = true ↔ ∃ j, j < i ∧ sg n τ j = p)
  fh : ∀ p, p < n → (r.st p).c = true → (r.st p).h = cmtI p t (xI X p) (nuI N p)
  fr : ∀ p, (r.st p).r = false
structure Hon1 (X : List Inp) (N : List Int) (t : Int) (n τ i : Nat) (r : RdV) : Prop where
  fk : r.k = n
  ft : r.t = t
  fo : r.o = true
  fc : ∀ p, p < n → (r.st p).c = true
  fh : ∀ p, p < n → (r.st p).h = cmtI p t (xI X p) (nuI N p)
  fr : ∀ p, p < n → ((r.st p).r = true ↔ ∃ j, j < i ∧ n - 1 - sg n τ j = p)
  fx : ∀ p, p < n → (r.st p).r = true → (r.st p).i = xI X p
section
variable {X : List Inp} {N : List Int} {t : Int} {n τ i : Nat} {r : RdV}
theorem hon_new : Hon0 X N t n τ 0 (newR n t) := ⟨rfl, rfl, rfl, fun p _ => ⟨fun h => by simp [newR, st0] at h, fun ⟨j, hj, _⟩ => by omega⟩, fun p _ h => by simp [newR, st0] at h, fun _ => rfl⟩
theorem badP_lt {k p : Nat} (h : p < k) : badP k p = false := badP_no (by omega)
theorem hon0_step (h : Hon0 X N t n τ i r) (ht : τ < n) (hi : i < n) {p : Nat} (hp : sg n τ i = p) : cmE r p = 0 ∧ Hon0 X N t n τ (i + 1) (cmR r p (cmtI p t (xI X p) (nuI N p))) := by
  have hpn : p < n := by rw [← hp]; exact sg_lt ht hi
  have hc : (r.st p).c = false := by
    rcases hc : (r.st p).c with _ | _
    · rfl
    · obtain ⟨j, hj, he⟩ := (h.fc p hpn).1 hc
      have := sg_inj ht (by omega) hi (he.trans hp.symm)
      omega
  refine ⟨?_, h.fk, h.ft, h.fo, fun q hq => ?_, fun q hq hqc => ?_, fun q => ?_⟩
  · unfold cmE
    rw [h.fk, badP_lt hpn, h.fo, toNat_q, hc]
    rfl
  · unfold cmR
    by_cases hqp : q = p
    · subst hqp
      simp only [setSt_at, true_iff]
      exact ⟨i, by omega, hp⟩
    · simp only [setSt_ne hqp]
      rw [h.fc q hq]
      constructor
      · rintro ⟨j, hj, he⟩; exact ⟨j, by omega, he⟩
      · rintro ⟨j, hj, he⟩
        rcases Nat.lt_or_ge j i with h1 | h1
        · exact ⟨j, h1, he⟩
        · obtain rfl : j = i := by omega
          exact absurd (he.symm.trans hp) hqp
  · unfold cmR at hqc ⊢
    by_cases hqp : q = p
    · subst hqp; simp only [setSt_at]
    · simp only [setSt_ne hqp] at hqc ⊢
      exact h.fh q hq hqc
  · unfold cmR
    by_cases hqp : q = p
    · subst hqp; simp only [setSt_at]; exact h.fr _
    · simp only [setSt_ne hqp]; exact h.fr q
theorem hon0_end (h : Hon0 X N t n τ n r) (ht : τ < n) : Hon1 X N t n τ 0 (closeR r) :=
  ⟨h.fk, h.ft, rfl, fun p hp => (h.fc p hp).2 (by obtain ⟨j, hj, he⟩ := sg_surj ht hp; exact ⟨j, hj, he⟩), fun p hp => h.fh p hp ((h.fc p hp).2 (by obtain ⟨j, hj, he⟩ := sg_surj ht hp; exact ⟨j, hj, he⟩)),
    fun p _ => ⟨fun hr => (by have := h.fr p; rw [show (closeR r).st = r.st from rfl, this] at hr; cases hr), fun ⟨j, hj, _⟩ => by omega⟩, fun p _ hr => by have := h.fr p; rw [show (closeR r).st = r.st from rfl, this] at hr; cases hr⟩
theorem hon1_step (h : Hon1 X N t n τ i r) (ht : τ < n) (hi : i < n) {p : Nat} (hp : n - 1 - sg n τ i = p) (hv : Val (xI X p)) : rvE r p (xI X p) (nuI N p) = 0 ∧ Hon1 X N t n τ (i + 1) (rvR r p (xI X p)) := by
  have hs := sg_lt ht hi
  have hpn : p < n := by omega
  have hr : (r.st p).r = false := by
    rcases hc : (r.st p).r with _ | _
    · rfl
    · obtain ⟨j, hj, he⟩ := (h.fr p hpn).1 hc
      have hs' := sg_lt (i := j) ht (by omega)
      have := sg_inj ht (i := j) (j := i) (by omega) hi (by omega)
      omega
  refine ⟨?_, h.fk, h.ft, h.fo, fun q hq => ?_, fun q hq => ?_, fun q hq => ?_, fun q hq hqr => ?_⟩
  · rw [rvE_step hv (by rw [h.fk]; exact badP_lt hpn) h.fo (h.fc p hpn) hr, if_pos (by rw [h.ft]; exact (h.fh p hpn).symm)]
  · unfold rvR
    by_cases hqp : q = p
    · subst hqp; simp only [setSt_at]; exact h.fc _ hq
    · simp only [setSt_ne hqp]; exact h.fc q hq
  · unfold rvR
    by_cases hqp : q = p
    · subst hqp; simp only [setSt_at]; exact h.fh _ hq
    · simp only [setSt_ne hqp]; exact h.fh q hq
  · unfold rvR
    by_cases hqp : q = p
    · subst hqp
      simp only [setSt_at, true_iff]
      exact ⟨i, by omega, hp⟩
    · simp only [setSt_ne hqp]
      rw [h.fr q hq]
      constructor
      · rintro ⟨j, hj, he⟩; exact ⟨j, by omega, he⟩
      · rintro ⟨j, hj, he⟩
        rcases Nat.lt_or_ge j i with h1 | h1
        · exact ⟨j, h1, he⟩
        · obtain rfl : j = i := by omega
          exact absurd (he.symm.trans hp) hqp
  · unfold rvR at hqr ⊢
    by_cases hqp : q = p
    · subst hqp; simp only [setSt_at]
    · simp only [setSt_ne hqp] at hqr ⊢
      exact h.fx q hq hqr
theorem hon1_end (h : Hon1 X N t n τ i r) : Hon1 X N t n τ i (closeR r) := ⟨h.fk, h.ft, rfl, h.fc, h.fh, h.fr, h.fx⟩
theorem hon1_all (h : Hon1 X N t n τ n r) (ht : τ < n) (p : Nat) (hp : p < n) : (r.st p).r = true := by
  refine (h.fr p hp).2 ?_
  obtain ⟨j, hj, he⟩ := sg_surj (p := n - 1 - p) ht (by omega)
  exact ⟨j, hj, by rw [he]; omega⟩
theorem hon_res (h : Hon1 X N t n τ n r) (ht : τ < n) (hX : X.length = n) : resL r [] n = X := by
  refine List.ext_getElem (by rw [resL_len, hX]) fun p h1 h2 => ?_
  have hp : p < n := by rw [resL_len] at h1; exact h1
  have e := resL_get r [] hp
  rw [List.getElem?_eq_getElem h1] at e
  injection e with e
  rw [e]
  unfold resV
  rw [hon1_all h ht p hp, if_pos rfl, h.fx p hp (hon1_all h ht p hp)]
  unfold xI
  rw [List.getD_eq_getElem?_getD, List.getElem?_eq_getElem h2]
  rfl
theorem hon_fau (h : Hon1 X N t n τ n r) (ht : τ < n) : resF r n = [] := by
  unfold resF
  rw [List.map_eq_nil_iff, List.filter_eq_nil_iff]
  intro p hp
  rw [hon1_all h ht p (List.mem_range.1 hp)]
  simp
end
end Go.Proofs.Ytojmkfhinkmhaaa
