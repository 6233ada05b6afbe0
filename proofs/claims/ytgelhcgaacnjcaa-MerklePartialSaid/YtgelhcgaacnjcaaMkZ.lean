/-
  WHAT IS PROVED HERE: the contract of the reference's Wrong, and that NewPartial refuses just what it calls wrong. No condition but that the leaves lie in memory, and bounds that every machine's lengths meet.
-/
import Derived.Test.YtgelhcgaacnjcaaMkY
import Derived.Laws.StructEq
namespace Go.Proofs.Ytgelhcgaacnjcaa
set_option linter.unusedVariables false
open Go.RowKit Go.Shelf

/-- two leaves of one index with different values -/
def clash (p r : LfR) : Bool := p.ix == r.ix && p.v != r.v
noncomputable def wrongR (root n : Int) : List LfR → List LfR → Bool
  | _, [] => false
  | prev, r :: rs => !verB root n r.ix r.v r.prf || (prev.any (fun p => clash p r) || wrongR root n (prev ++ [r]) rs)
/-- the cells hold what the leaves ahead say -/
def Holds (C : Lit → Option Int) (prev : List LfR) : Prop := (∀ x : Int, (C (kI x)).isSome = true → ∃ p ∈ prev, p.ix = x) ∧ ∀ p ∈ prev, C (kI p.ix) = some p.v
theorem Holds.snoc {C : Lit → Option Int} {prev : List LfR} (h : Holds C prev) {r : LfR} (hr : prev.any (fun p => clash p r) = false) : Holds (putM C (kI r.ix) r.v) (prev ++ [r]) := by
  have hr' : ∀ p ∈ prev, p.ix = r.ix → p.v = r.v := by
    intro p hp he
    have := List.any_eq_false.1 hr p hp
    simpa [clash, he] using this
  refine ⟨fun x hx => ?_, fun p hp => ?_⟩
  · by_cases he : kI x = kI r.ix
    · exact ⟨r, by simp, (kI_inj he).symm⟩
    · rw [putM_other _ _ he] at hx
      obtain ⟨p, hp, e⟩ := h.1 x hx
      exact ⟨p, by simp [hp], e⟩
  · rcases List.mem_append.1 hp with hp | hp
    · by_cases he : p.ix = r.ix
      · rw [he, putM_same, hr' p hp he]
      · rw [putM_other _ _ (fun e => he (kI_inj e))]
        exact h.2 p hp
    · simp at hp
      subst hp
      exact putM_same _ _ _
theorem holds_clash {C : Lit → Option Int} {prev : List LfR} (h : Holds C prev) (r : LfR) : prev.any (fun p => clash p r) = true ↔ (C (kI r.ix)).isSome = true ∧ (C (kI r.ix)).getD 0 ≠ r.v := by
  rw [List.any_eq_true]
  constructor
  · rintro ⟨p, hp, hc⟩
    simp only [clash, Bool.and_eq_true, beq_iff_eq, bne_iff_ne] at hc
    have := h.2 p hp
    rw [hc.1] at this
    rw [this]
    exact ⟨rfl, hc.2⟩
  · rintro ⟨h1, h2⟩
    obtain ⟨p, hp, e⟩ := h.1 _ h1
    refine ⟨p, hp, ?_⟩
    have := h.2 p hp
    rw [e] at this
    rw [this] at h2
    simp only [clash, Bool.and_eq_true, beq_iff_eq, bne_iff_ne]
    exact ⟨e, h2⟩
theorem np_wrong (root n : Int) (q : Nat) : ∀ (rs prev : List LfR) (C M : Lit → Option Int), Holds C prev → (npRun root n q C M rs).isNone = wrongR root n prev rs
  | [], prev, C, M, h => rfl
  | r :: rs, prev, C, M, h => by
    unfold npRun wrongR
    by_cases hv : verB root n r.ix r.v r.prf = true
    · rcases hc : prev.any (fun p => clash p r) with _ | _
      · have h2 : ¬ ((C (kI r.ix)).isSome = true ∧ (C (kI r.ix)).getD 0 ≠ r.v) := fun e => by
          rw [(holds_clash h r).2 e] at hc
          cases hc
        rw [if_pos ⟨hv, h2⟩, np_wrong root n q rs (prev ++ [r]) _ _ (h.snoc hc), hv]
        rfl
      · rw [if_neg (fun e => e.2 ((holds_clash h r).1 hc)), hv]
        rfl
    · rw [if_neg (fun e => hv e.1), show verB root n r.ix r.v r.prf = false from by simpa using hv]
      rfl
/-- the code of the reference's answer -/
@[irreducible] noncomputable def wrongE (root n : Int) (rs : List LfR) : Int := if wrongR root n [] rs = true then 22 else 0
theorem wrongE_yes {root n : Int} {rs : List LfR} (h : wrongR root n [] rs = true) : wrongE root n rs = 22 := by unfold wrongE; rw [if_pos h]
theorem wrongE_no {root n : Int} {rs : List LfR} (h : wrongR root n [] rs = false) : wrongE root n rs = 0 := by unfold wrongE; rw [if_neg (by rw [h]; simp)]
set_option maxHeartbeats 2000000 in
set_option maxRecDepth 100000 in
theorem wrong_any (root : Int) (n m c : Nat) (A : Option Addr) (rs : List LfR) (W0 : World) (rd : LfRows W0 W0.heap.size A m rs) (hn : n ≤ 1000) (hm : m ≤ 100) :
    Calls Try.prog 27 #[.int .u64 root, .int .i64 n, .slice A m c] W0 fun e w' => e = .returned (.int .i64 (wrongE root n rs)) ∧ Below W0.heap.size W0 w' := by
  have HLN := Lib.hid rd.len
  have RD := Lib.hid rd
  clear rd
  go_enter Try.func27, Try.ntmps27
  go_wp2
  go_loopw [7] (fun s wr => ∃ k : Nat, k ≤ m ∧ s = .int .i64 k ∧ Hid (wrongR root n [] rs = wrongR root n (rs.take k) (rs.drop k)) ∧ Hid (Below W0.heap.size W0 wr)) (fun s _ => m - (intOf s).toNat)
  case atStart => exact ⟨0, by omega, rfl, Lib.hid (by rw [List.take_zero, List.drop_zero]), Lib.hid (Below.refl _ _)⟩
  case round =>
    obtain ⟨k, hk, rfl, HR, HB⟩ := hrel
    by_cases hlt : k < m
    · have hlt' : k < rs.length := by rw [HLN.out]; exact hlt
      obtain ⟨bb, o, rfl, hb, c0, c1, c2⟩ := (RD.out.below HB.out (Nat.le_refl _)).at_ hlt'
      have RP := ((RD.out.below HB.out (Nat.le_refl _)).2 _ (List.getElem_mem hlt')).more HB.out.size
      have hdr : rs.drop k = rs[k] :: rs.drop (k + 1) := List.drop_eq_getElem_cons hlt'
      have htk : rs.take (k + 1) = rs.take k ++ [rs[k]] := List.take_succ_eq_append_getElem hlt'
      obtain ⟨⟨ix, v, A2, m2, c2', prf⟩, hr⟩ : ∃ r, rs[k] = r := ⟨_, rfl⟩
      rw [hr] at c0 c1 c2 RP hdr htk
      simp only at c0 c1 c2 RP
      have HDR := Lib.hid hdr
      have HTK := Lib.hid htk
      have HRP := Lib.hid RP
      have HRK := Lib.hid hr
      have hsz := HB.out.size
      have hbl : bb < wr.heap.size := by omega
      obtain ⟨j1, j2⟩ : (0 : Int) ≤ (k : Int) ∧ (k : Int) < (m : Int) := by omega
      clear hdr htk RP hr
      go_wp2_with fail
      refine (rverify_any root n ix v A2 m2 c2' prf _ (by omega) HRP.out).mono ?_
      rintro e w4 ⟨rfl, hb4⟩
      obtain ⟨qv, hqv⟩ : ∃ x, verB root n ix v prf = x := ⟨_, rfl⟩
      have HQV := Lib.hid hqv
      have HB4 := Lib.hid (b_call HB.out hb4)
      rw [hqv]
      rcases qv with _ | _
      · have HNO := Lib.hid (wrongE_yes (show wrongR root n [] rs = true from by
          rw [HR.out, HDR.out, wrongR]
          simp [hqv]))
        clear hqv hb4 HB
        go_wp2
        go_ret
        exact ⟨by rw [HNO.out]; rfl, HB4.out⟩
      · clear hqv hb4 c0 c1 c2 HB
        go_wp2
        go_loopw [9] (fun s wr => ∃ j : Nat, j ≤ k ∧ s = .int .i64 j ∧ Hid (∀ p ∈ rs.take j, clash p ⟨ix, v, A2, m2, c2', prf⟩ = false) ∧ Hid (Below W0.heap.size W0 wr)) (fun s _ => k - (intOf s).toNat)
        case atStart => exact ⟨0, by omega, rfl, Lib.hid (by simp), HB4⟩
        case round =>
          obtain ⟨j, hj, rfl, HJ, HB⟩ := hrel
          clear HB4
          by_cases hlj : j < k
          · have hlj' : j < rs.length := by rw [HLN.out]; omega
            have RDw := RD.out.below HB.out (Nat.le_refl _)
            obtain ⟨b9, o9, e9, hb9, d0, d1, _⟩ := RDw.at_ hlj'
            cases e9
            obtain ⟨b9, o9, e9, _, f0, f1, _⟩ := RDw.at_ (k := k) (by rw [HLN.out]; exact hlt)
            cases e9
            rw [HRK.out] at f0 f1
            have htk : rs.take (j + 1) = rs.take j ++ [rs[j]] := List.take_succ_eq_append_getElem hlj'
            obtain ⟨⟨jx, jv, u1, u2, u3, u4⟩, hrj⟩ : ∃ r, rs[j] = r := ⟨_, rfl⟩
            rw [hrj] at d0 d1 htk
            simp only at d0 d1 f0 f1
            obtain ⟨j3, j4⟩ : (0 : Int) ≤ (j : Int) ∧ (j : Int) < (m : Int) := by omega
            have hs2 := HB.out.size
            have hb2 : bb < wr.heap.size := by omega
            have HRJ := Lib.hid hrj
            clear RDw hrj
            by_cases h1 : jx = ix
            · subst h1
              have q1 : (jx == jx) = true := by simp
              by_cases h2 : jv = v
              · have q2 : (jv != v) = false := by simpa using h2
                have HN := Lib.hid (show ∀ p ∈ rs.take (j + 1), clash p ⟨jx, v, A2, m2, c2', prf⟩ = false from by
                  rw [htk]
                  intro p hp
                  rcases List.mem_append.1 hp with hp | hp
                  · exact HJ.out p hp
                  · simp at hp
                    subst hp
                    simp [clash, h2])
                clear htk
                go_wp2_with fail
                go_quiet (fail)
                go_wp2
                go_roundw
                case rel => exact ⟨j + 1, by omega, by go_num, HN, Lib.hid (below_drewN HB.out _)⟩
                case measure => simp [intOf]; omega
              · have q2 : (jv != v) = true := by simpa using h2
                have HNO := Lib.hid (wrongE_yes (show wrongR root n [] rs = true from by
                  rw [HR.out, HDR.out, wrongR]
                  have : (rs.take k).any (fun p => clash p ⟨jx, v, A2, m2, c2', prf⟩) = true := by
                    rw [List.any_eq_true]
                    refine ⟨rs[j], List.mem_take_iff_getElem.2 ⟨j, by omega, rfl⟩, ?_⟩
                    rw [HRJ.out]
                    simp [clash, h2]
                  rw [this]
                  simp))
                clear htk h2
                go_wp2_with fail
                go_quiet (fail)
                go_wp2
                go_ret
                exact ⟨by rw [HNO.out]; rfl, below_drewN HB.out _⟩
            · have q1 : (jx == ix) = false := by simpa using h1
              have HN := Lib.hid (show ∀ p ∈ rs.take (j + 1), clash p ⟨ix, v, A2, m2, c2', prf⟩ = false from by
                rw [htk]
                intro p hp
                rcases List.mem_append.1 hp with hp | hp
                · exact HJ.out p hp
                · simp at hp
                  subst hp
                  simp [clash, h1])
              clear htk
              go_wp2_with fail
              go_quiet (fail)
              go_wp2
              go_roundw
              case rel => exact ⟨j + 1, by omega, by go_num, HN, Lib.hid (below_drewN HB.out _)⟩
              case measure => simp [intOf]; omega
          · obtain rfl : j = k := by omega
            have HN := Lib.hid (show wrongR root n [] rs = wrongR root n (rs.take (j + 1)) (rs.drop (j + 1)) from by
              rw [HR.out, HDR.out, wrongR, HTK.out]
              have : (rs.take j).any (fun p => clash p ⟨ix, v, A2, m2, c2', prf⟩) = false := by
                rw [List.any_eq_false]
                intro p hp
                rw [HJ.out p hp]
                simp
              rw [this, HQV.out]
              rfl)
            go_wp2
            go_roundw
            case rel => exact ⟨j + 1, by omega, by go_num, HN, HB⟩
            case measure => simp [intOf]; omega
    · obtain rfl : m = k := by omega
      have HT := Lib.hid (wrongE_no (show wrongR root n [] rs = false from by
        rw [HR.out, List.drop_eq_nil_of_le (by rw [HLN.out]; omega)]
        rfl))
      go_wp2
      go_ret
      exact ⟨by rw [HT.out]; rfl, HB.out⟩
end Go.Proofs.Ytgelhcgaacnjcaa
