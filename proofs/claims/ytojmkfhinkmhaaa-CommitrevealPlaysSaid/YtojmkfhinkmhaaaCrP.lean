/-
  WHAT IS PROVED HERE: plain facts on rounds: who revealed, and who is at fault. No condition beyond what each theorem states.
-/
import Derived.Test.YtojmkfhinkmhaaaCrO
namespace Go.Proofs.Ytojmkfhinkmhaaa
set_option linter.unusedVariables false
open Go.ChangeShapes Go.WideShapes Go.ChangeAt Go.RowKit

theorem filter_one {f g : Nat → Bool} {q : Nat} (hq : f q = true) (hg : ∀ p, g p = if p = q then false else f p) : ∀ k, q < k → ((List.range k).filter g).length + 1 = ((List.range k).filter f).length := by
  have same : ∀ k, k ≤ q → (List.range k).filter g = (List.range k).filter f := by
    intro k
    induction k with
    | zero => intro _; rfl
    | succ k ih =>
      intro h
      rw [List.range_succ, List.filter_append, List.filter_append, ih (by omega)]
      have : g k = f k := by rw [hg, if_neg (by omega)]
      simp only [List.filter_cons, List.filter_nil, this]
  intro k
  induction k with
  | zero => intro h; omega
  | succ k ih =>
    intro h
    rw [List.range_succ, List.filter_append, List.filter_append, List.length_append, List.length_append]
    by_cases hkq : k = q
    · subst hkq
      rw [same k (Nat.le_refl _)]
      have h1 : g k = false := by rw [hg, if_pos rfl]
      simp [h1, hq]
    · have := ih (by omega)
      have h1 : g k = f k := by rw [hg, if_neg hkq]
      simp only [List.filter_cons, List.filter_nil, h1]
      omega
/-- Who revealed: V; the others are at fault. -/
structure Fau (r : RdV) (V : List Int) : Prop where
  k : r.k = 5
  mem : ∀ q : Nat, (q : Int) ∈ V ↔ (r.st q).r = true
  cnt : V.length + (resF r 5).length = 5
  val : ∀ q : Nat, (r.st q).r = true → Val (r.st q).i
theorem fau_new (T : Int) : Fau (newR 5 T) [] := ⟨rfl, fun q => by simp [newR, st0], rfl, fun q h => by simp [newR, st0] at h⟩
theorem fau_same {r s : RdV} {V : List Int} (h : Fau r V) (hk : s.k = r.k) (hs : ∀ q, (s.st q).r = (r.st q).r ∧ (s.st q).i = (r.st q).i) : Fau s V := by
  refine ⟨hk.trans h.k, fun q => by rw [(hs q).1]; exact h.mem q, ?_, fun q hq => ?_⟩
  · have : resF s 5 = resF r 5 := by
      unfold resF
      congr 1
      refine List.filter_congr fun q _ => ?_
      rw [(hs q).1]
    rw [this]
    exact h.cnt
  · rw [(hs q).2]
    rw [(hs q).1] at hq
    exact h.val q hq
theorem rv_fresh {r : RdV} {q : Nat} {x : Inp} {n : Int} (h : rvE r q x n = 0) : (r.st q).r = false ∧ Val x := by
  unfold rvE at h
  rw [toNat_q] at h
  rcases hb : badP r.k q with _ | _ <;> rcases ho : r.o with _ | _ <;> rcases hc : (r.st q).c with _ | _ <;> rcases hr : (r.st q).r with _ | _ <;> simp [hb, ho, hc, hr] at h
  refine ⟨rfl, ?_⟩
  by_cases hv : vcode x = 0
  · exact val_of hv
  · rw [if_neg hv] at h
    exact absurd h hv
theorem fau_hit {r : RdV} {V : List Int} (h : Fau r V) (T : Int) {a : ActV} (hd : a.d = 1) (hE : dsE r T a = 0) : ¬ a.p ∈ V ∧ Fau (dsR r T a) (V ++ [a.p]) := by
  obtain ⟨d, p, x, n⟩ := a
  simp only at hd
  subst hd
  rw [dsE_1] at hE
  rw [dsR_1]
  obtain ⟨q, rfl, hq5⟩ := rv_good hE
  obtain ⟨hf, hx⟩ := rv_fresh hE
  rw [h.k] at hq5
  have hS : rvS r q x n = rvR r q x := by unfold rvS; rw [if_pos hE, toNat_q]
  rw [hS]
  have hst : ∀ p, ((rvR r q x).st p).r = if p = q then true else (r.st p).r := fun p => by
    unfold rvR
    by_cases hpq : p = q
    · subst hpq; simp only [setSt_at, if_true]
    · simp only [setSt_ne hpq, if_neg hpq]
  refine ⟨by rw [h.mem, hf]; simp, h.k, fun p => ?_, ?_, fun p hp => ?_⟩
  · rw [hst]
    simp only [List.mem_append, List.mem_singleton]
    by_cases hpq : p = q
    · subst hpq; simp
    · rw [if_neg hpq, h.mem]
      constructor
      · rintro (h1 | h1)
        · exact h1
        · exact absurd (Int.ofNat.inj h1) hpq
      · exact .inl
  · have := filter_one (f := fun p => !(r.st p).r) (g := fun p => !((rvR r q x).st p).r) (q := q) (by simp [hf]) (fun p => by
      simp only [hst]
      by_cases hpq : p = q <;> simp [hpq]) 5 hq5
    have hc := h.cnt
    unfold resF at hc ⊢
    rw [List.length_map] at hc ⊢
    rw [List.length_append, List.length_singleton]
    omega
  · unfold rvR
    by_cases hpq : p = q
    · subst hpq; simp only [setSt_at]; exact hx
    · simp only [setSt_ne hpq]
      rw [hst, if_neg hpq] at hp
      exact h.val p hp
theorem fau_miss {r : RdV} {V : List Int} (h : Fau r V) (T : Int) {a : ActV} (hG : ActG a) (hn : ¬ (a.d = 1 ∧ dsE r T a = 0)) : Fau (dsR r T a) V := by
  obtain ⟨d, p, x, n⟩ := a
  rcases hG.hd with hd | hd | hd
  · simp only at hd
    subst hd
    rw [dsR_0]
    generalize cmtI p T (okI x) n = C
    unfold cmS
    split
    · refine fau_same h rfl fun q => ?_
      unfold cmR
      by_cases hpq : q = p.toNat
      · subst hpq; simp only [setSt_at, and_self]
      · simp only [setSt_ne hpq, and_self]
    · exact h
  · simp only at hd
    subst hd
    rw [dsE_1] at hn
    rw [dsR_1]
    unfold rvS
    rw [if_neg (fun h => hn ⟨rfl, h⟩)]
    exact h
  · simp only at hd
    subst hd
    rw [dsR_2]
    exact fau_same h rfl fun q => ⟨rfl, rfl⟩
theorem fau_res {r : RdV} {V : List Int} (h : Fau r V) (known : List Inp) {q : Nat} (hq : q < 5) : decide ((q : Int) ∈ resF r 5) = !(r.st q).r ∧ decide ((q : Int) ∈ V) = (r.st q).r := by
  constructor
  · rcases hr : (r.st q).r with _ | _
    · rw [decide_eq_true ((mem_resF r 5 q).2 ⟨hq, hr⟩)]; rfl
    · rw [decide_eq_false (fun hm => by have := ((mem_resF r 5 q).1 hm).2; rw [hr] at this; cases this)]; rfl
  · rcases hr : (r.st q).r with _ | _
    · rw [decide_eq_false (fun hm => by rw [h.mem, hr] at hm; cases hm)]
    · rw [decide_eq_true ((h.mem q).2 hr)]
theorem pred_val {x : Inp} (h : Val x) : Val (pred x) := by
  unfold Val at *
  unfold pred
  simp only
  omega
theorem res_val {r : RdV} {V : List Int} (h : Fau r V) {known : List Inp} (hk : ∀ x ∈ known, Val x) (q : Nat) : Val (resV r known q) := by
  unfold resV
  split
  · rename_i hr
    exact h.val q hr
  · refine pred_val ?_
    rw [List.getD_eq_getElem?_getD]
    rcases hg : known[q]? with _ | x
    · exact (by decide : Val (0, 0, 0))
    · exact hk x (List.mem_of_getElem? hg)
end Go.Proofs.Ytojmkfhinkmhaaa
