/-
  WHAT IS PROVED HERE: the contract of the reference's Groups: the sets in increasing order by their least elements. No condition but bounds that every machine's lengths meet.
-/
import Derived.Test.YtjmhibjkbnbefaaUfD
namespace Go.Proofs.Ytjmhibjkbnbefaa
set_option linter.unusedVariables false
open Go.ChangeShapes Go.WideShapes Go.ChangeAt Go.RowKit

def doneL (s : List Int) (f : Nat → Nat) (k : Nat) : List Int := (heads f k).map (fun r => s.getD r 0)
theorem doneL_len (s : List Int) (f : Nat → Nat) (k : Nat) : (doneL s f k).length = (heads f k).length := by simp [doneL]
def headRows (f : Nat → Nat) (n k : Nat) : List (List Int) := (heads f k).map (fun r => intsI (memb f n r))
theorem headRows_len (f : Nat → Nat) (n k : Nat) : (headRows f n k).length = (heads f k).length := by simp [headRows]
theorem headRows_all (f : Nat → Nat) (n : Nat) : headRows f n n = groupsI f n := by simp [headRows, groupsI, groupsU]
theorem heads_hit {f : Nat → Nat} {k : Nat} (h : f k = k) : heads f (k + 1) = heads f k ++ [k] := by rw [heads_snoc, if_pos h]
theorem heads_miss {f : Nat → Nat} {k : Nat} (h : ¬ f k = k) : heads f (k + 1) = heads f k := by rw [heads_snoc, if_neg h, List.append_nil]
theorem memb_hit {f : Nat → Nat} {k r : Nat} (h : f k = r) : memb f (k + 1) r = memb f k r ++ [k] := by rw [memb_snoc, if_pos h]
theorem memb_miss {f : Nat → Nat} {k r : Nat} (h : ¬ f k = r) : memb f (k + 1) r = memb f k r := by rw [memb_snoc, if_neg h, List.append_nil]
theorem intsI_append (l m : List Nat) : intsI (l ++ m) = intsI l ++ intsI m := by simp [intsI]

/-- What the outer loop holds at k. -/
structure GrpAt (w wr : World) (s : List Int) (f : Nat → Nat) (n k m : Nat) (A1 : Option Addr) (c1 : Nat) (A2 : Option Addr) (c2 : Nat) (vs : List Value) : Prop where
  hm : m = (heads f k).length
  out : wr.ownsRow w.heap.size 22 1 (.slice A1 m c1) m vs
  rows : RowsOf wr w.heap.size vs (headRows f n k)
  done : wr.ownsRow w.heap.size 3 1 (.slice A2 m c2) m ((doneL s f k).map (Value.int .i64))
  apart : ∀ v ∈ vs, Apart v (.slice A2 m c2)
  hc1 : m ≤ c1 ∧ c1 ≤ maxLen
  hc2 : m ≤ c2 ∧ c2 ≤ maxLen

theorem GrpAt.skip {w wr : World} {s : List Int} {f : Nat → Nat} {n k m : Nat} {A1 : Option Addr} {c1 : Nat} {A2 : Option Addr} {c2 : Nat} {vs : List Value} (h : GrpAt w wr s f n k m A1 c1 A2 c2 vs) (hf : ¬ f k = k) : GrpAt w wr s f n (k + 1) m A1 c1 A2 c2 vs := by
  obtain ⟨h1, h2, h3, h4, h5, h6, h7⟩ := h
  refine ⟨by rw [heads_miss hf]; exact h1, h2, ?_, ?_, h5, h6, h7⟩
  · unfold headRows at h3 ⊢
    rw [heads_miss hf]
    exact h3
  · unfold doneL at h4 ⊢
    rw [heads_miss hf]
    exact h4

/-- Behind the append to 'done', before the new group is made. -/
structure GrpMid (w X : World) (s : List Int) (f : Nat → Nat) (n k m : Nat) (A1 : Option Addr) (c1 : Nat) (A2 : Option Addr) (c2 : Nat) (vs : List Value) : Prop where
  hm : m = (heads f k).length
  out : X.ownsRow w.heap.size 22 1 (.slice A1 m c1) m vs
  rows : RowsOf X w.heap.size vs (headRows f n k)
  done : X.ownsRow w.heap.size 3 1 (.slice A2 (m + 1) c2) (m + 1) ((doneL s f (k + 1)).map (Value.int .i64))
  apart : ∀ v ∈ vs, Apart v (.slice A2 (m + 1) c2)
  hc1 : m ≤ c1 ∧ c1 ≤ maxLen
  hc2 : m + 1 ≤ c2 ∧ c2 ≤ maxLen

theorem GrpAt.mid {w wr w1 X : World} {s : List Int} {f : Nat → Nat} {n k m : Nat} {A1 : Option Addr} {c1 : Nat} {A2 : Option Addr} {c2 : Nat} {A2' : Option Addr} {c2' : Nat} {vs : List Value} (h : GrpAt w wr s f n k m A1 c1 A2 c2 vs) (hf : f k = k) (h0 : Below wr.heap.size wr w1)
    (hown : X.ownsRow w.heap.size 3 1 (.slice A2' (m + 1) c2') (m + 1) ((doneL s f k).map (Value.int .i64) ++ [.int .i64 (s.getD k 0)])) (hg : w1.grownBy X (Value.slice A2 m c2).ownBlock) (hc : m + 1 ≤ c2' ∧ c2' ≤ maxLen)
    (hloc : (Value.slice A2' (m + 1) c2').ownBlock = (Value.slice A2 m c2).ownBlock ∨ (Value.slice A2' (m + 1) c2').ownBlock = some w1.heap.size) : GrpMid w X s f n k m A1 c1 A2' c2' vs := by
  obtain ⟨h1, h2, h3, h4, h5, h6, h7⟩ := h
  have h2' := own_below h2 h0
  have h3' := h3.below h0
  have h4' := own_below h4 h0
  refine ⟨h1, h2'.kept hg (own_types h2' h4' (Ne.symm int_ne_sl)), h3'.kept hg h5, ?_, fun v hv => ?_, h6, hc⟩
  · have e : (doneL s f (k + 1)).map (Value.int .i64) = (doneL s f k).map (Value.int .i64) ++ [.int .i64 (s.getD k 0)] := by
      unfold doneL
      rw [heads_hit hf]
      simp
    rw [e]
    exact hown
  · rcases hloc with h8 | h8
    · unfold Apart
      rw [h8]
      exact h5 v hv
    · rcases hb : v.ownBlock with _ | g
      · exact .inl hb
      · refine .inr ?_
        obtain ⟨row, ho⟩ := h3'.at hv
        have := (ho.lt g hb).2
        rw [h8, hb]
        intro e
        injection e with e
        omega

/-- Behind the append of the new group. -/
theorem GrpMid.next {w X Y Z w1 : World} {s : List Int} {f : Nat → Nat} {n k m mj : Nat} {A1 : Option Addr} {c1 : Nat} {A2 : Option Addr} {c2 : Nat} {vs : List Value} {A3 : Option Addr} {c3 : Nat} {A1' : Option Addr} {c1' : Nat} (h : GrpMid w X s f n k m A1 c1 A2 c2 vs) (hf : f k = k) (hw : Below w.heap.size w X)
    (h0 : Below X.heap.size X Y) (h1 : Below Y.heap.size Y w1) (hj : mj = (memb f n k).length) (hgr : Y.ownsRow X.heap.size 3 1 (.slice A3 mj c3) mj ((intsI (memb f n k)).map (Value.int .i64)))
    (hown : Z.ownsRow w.heap.size 22 1 (.slice A1' (m + 1) c1') (m + 1) (vs ++ [.slice A3 mj c3])) (hg : w1.grownBy Z (Value.slice A1 m c1).ownBlock) (hc : m + 1 ≤ c1' ∧ c1' ≤ maxLen) : GrpAt w Z s f n (k + 1) (m + 1) A1' c1' A2 c2 (vs ++ [.slice A3 mj c3]) := by
  obtain ⟨a1, a2, a3, a4, a5, a6, a7⟩ := h
  have b2 := own_below (own_below a2 h0) h1
  have b3 := (a3.below h0).below h1
  have b4 := own_below (own_below a4 h0) h1
  have bg := own_below hgr h1
  have hne := int_ne_sl
  have bg' : Z.ownsRow w.heap.size 3 1 (.slice A3 mj c3) mj ((intsI (memb f n k)).map (Value.int .i64)) := own_mono (bg.kept hg (own_types bg b2 hne)) hw.size
  have el : (intsI (memb f n k)).length = mj := by rw [intsI_len, hj]
  refine ⟨by rw [heads_hit hf, List.length_append, ← a1]; rfl, hown, ?_, b4.kept hg (own_types b4 b2 hne), fun v hv => ?_, hc, a7⟩
  · have e : headRows f n (k + 1) = headRows f n k ++ [intsI (memb f n k)] := by
      unfold headRows
      rw [heads_hit hf]
      simp
    rw [e]
    refine RowsOf.snoc (b3.kept hg fun v hv => ?_) (A := A3) (c := c3) (by rw [el]) (by rw [el]; exact bg')
    obtain ⟨row, ho⟩ := b3.at hv
    exact own_types ho b2 hne
  · rcases List.mem_append.1 hv with hv | hv
    · exact a5 v hv
    · simp at hv
      subst hv
      rcases hb : (Value.slice A3 mj c3).ownBlock with _ | g
      · exact .inl hb
      · refine .inr ?_
        have := (hgr.lt g hb).1
        rw [hb]
        intro e
        have := (a4.lt g e.symm).2
        omega

set_option maxHeartbeats 1000000 in
theorem refgroups_any (A : Option Addr) (n c : Nat) (s : List Int) (f : Nat → Nat) (w : World) (hn : n ≤ 10000) (hs : s.length = n) (hR : RelU s f) (hP : Part f) (rd : Rd w w.heap.size 1 A n (s.map (Value.int .i64))) :
    Calls Try.prog 28 #[.slice A n c] w (RetRows w (groupsI f n)) := by
  subst hs
  have RD := Lib.hid rd
  have HR := Lib.hid (And.intro hR hP)
  clear rd hR hP
  go_enter Try.func28, Try.ntmps28
  go_wp2
  go_loopw [3, 4, 5] (fun s3 s4 s5 wr => ∃ (k m : Nat) (A1 : Option Addr) (c1 : Nat) (A2 : Option Addr) (c2 : Nat) (vs : List Value), k ≤ s.length ∧ m ≤ k ∧ s5 = .int .i64 k ∧ s3 = .slice A1 m c1 ∧ s4 = .slice A2 m c2 ∧ Hid (GrpAt w wr s f s.length k m A1 c1 A2 c2 vs) ∧ Below w.heap.size w wr) (fun _ _ i _ => s.length - (intOf i).toNat)
  case atStart => exact ⟨0, 0, none, 0, none, 0, [], by omega, by omega, rfl, rfl, rfl, Lib.hid ⟨rfl, own_nil _ _ _ _, RowsOf.nil _ _, own_nil _ _ _ _, by simp, by simp [maxLen], by simp [maxLen]⟩, Below.refl _ _⟩
  case round =>
    obtain ⟨k, m, A1, c1, A2, c2, vs, hk, hmk, rfl, rfl, rfl, HG, hB⟩ := hrel
    have hz1 := hB.size
    by_cases hlt : k < s.length
    · obtain ⟨b, o, rfl, hb, hcell⟩ := rd_at (RD.out.below hB (Nat.le_refl _)) hlt
      have hdl : (doneL s f k).length = m := by rw [doneL_len]; exact HG.out.hm.symm
      have HD := Lib.hid (done_iff HR.out.1 HR.out.2 hlt)
      have RDn := Lib.hid (rd_own HG.out.done)
      have HDL := Lib.hid hdl
      clear hdl
      obtain ⟨x, hx⟩ : ∃ x, s.getD k 0 = x := ⟨_, rfl⟩
      have HX := Lib.hid hx
      rw [hx] at hcell HD
      clear hx
      by_cases hf : f k = k
      · have hq : decide (x ∈ doneL s f k) = false := by
          rw [decide_eq_false_iff_not]
          intro h
          exact HD.out.1 h hf
        have HF := Lib.hid hf
        have HQ := Lib.hid hq
        clear hf HD hq
        go_wp2_with fail
        refine (has_is A2 m c2 (doneL s f k) x _ _ (by omega) RDn.out HQ.out).mono ?_
        rintro e w_ ⟨rfl, rfl⟩
        clear RDn
        go_wp2_with (at_builtin; refine wpList_app _ rfl (.tmp 20) (.tmp 25) slInts rfl rfl (HG.out.done.alloc _) rfl (rd_lit _ _ _ rfl rfl) (by intro u hu; simp at hu; subst hu; rfl) (m + 1) rfl (by unfold maxLen; omega) (by omega) (by simp; omega) ?_; intro A4 c4 X g1 g2 g3 g4 g5)
        have HM := Lib.hid (HG.out.mid HF.out (b_alloc (Below.refl _ _) _) (by rw [HX.out]; exact g3) g4 ⟨g1, g2⟩ g5)
        have hBX := below_app (b_alloc hB _) (HG.out.done.alloc _) g4 (Nat.le_refl _) (by simp; omega)
        clear g1 g2 g3 g4 g5 HG HQ
        have hzX := hBX.size
        go_loopw [6, 7] (fun s6 s7 Y => ∃ (j mj : Nat) (A3 : Option Addr) (c3 : Nat), j ≤ s.length ∧ mj ≤ j ∧ s7 = .int .i64 j ∧ s6 = .slice A3 mj c3 ∧ Hid (mj = (memb f j k).length) ∧ Hid (Y.ownsRow X.heap.size 3 1 (.slice A3 mj c3) mj ((intsI (memb f j k)).map (Value.int .i64))) ∧ mj ≤ c3 ∧ c3 ≤ maxLen ∧ Below X.heap.size X Y) (fun _ i _ => s.length - (intOf i).toNat)
        case atStart => exact ⟨0, 0, none, 0, by omega, by omega, rfl, rfl, Lib.hid rfl, Lib.hid (own_nil _ _ _ _), by omega, by simp [maxLen], Below.refl _ _⟩
        case round =>
          obtain ⟨j, mj, A3, c3, hj, hmj, rfl, rfl, HJ, HO, hc3, hm3, hBY⟩ := hrel
          have hBYw := hBX.trans (hBY.mono hzX)
          have hzY := hBY.size
          have hck := rd_at0 (RD.out.below hBYw (Nat.le_refl _)) hlt
          rw [HX.out] at hck
          by_cases hjl : j < s.length
          · have hcj := rd_at0 (RD.out.below hBYw (Nat.le_refl _)) hjl
            have HE := HR.out.1 j k hjl hlt
            rw [HX.out, HF.out] at HE
            obtain ⟨y, hy⟩ : ∃ y, s.getD j 0 = y := ⟨_, rfl⟩
            rw [hy] at hcj HE
            clear hy
            by_cases hyx : y = x
            · have hq2 : (y == x) = true := by simpa using hyx
              have EJ := Lib.hid (memb_hit (HE.1 hyx))
              clear HE hyx
              go_wp2_with fail
              go_quiet (fail)
              generalize hY2 : wr.drewN nq = Y2
              have hB2 : Below X.heap.size X Y2 := by rw [← hY2]; exact below_drewN hBY _
              have HO2 := Lib.hid (show Y2.ownsRow X.heap.size 3 1 (.slice A3 mj c3) mj ((intsI (memb f j k)).map (Value.int .i64)) from by rw [← hY2]; exact HO.out)
              have hz2 := hB2.size
              clear hY2
              go_wp2_with (at_builtin; refine wpList_app _ rfl (.tmp 42) (.tmp 44) slInts rfl rfl (HO2.out.alloc _) rfl (rd_lit _ _ _ rfl rfl) (by intro u hu; simp at hu; subst hu; rfl) (mj + 1) rfl (by unfold maxLen; omega) (by omega) (by simp; omega) ?_; intro A5 c5 Y3 g1 g2 g3 g4 g5)
              go_roundw
              case rel => exact ⟨j + 1, mj + 1, A5, c5, by omega, by omega, by go_num, rfl, Lib.hid (by rw [EJ.out, List.length_append, ← HJ.out]; rfl), Lib.hid (by rw [EJ.out, intsI_append, List.map_append]; exact g3), g1, g2, below_app (b_alloc hB2 _) (HO2.out.alloc _) g4 (Nat.le_refl _) (by simp; omega)⟩
              case measure => simp [intOf]; omega
            · have hq2 : (y == x) = false := by simpa using hyx
              have EJ := Lib.hid (memb_miss (fun h => hyx (HE.2 h)))
              clear HE hyx
              go_wp2_with fail
              go_quiet (fail)
              go_wp2
              go_roundw
              case rel => exact ⟨j + 1, mj, A3, c3, by omega, by omega, by go_num, rfl, Lib.hid (by rw [EJ.out]; exact HJ.out), Lib.hid (by rw [EJ.out]; exact HO.out), hc3, hm3, below_drewN hBY _⟩
              case measure => simp [intOf]; omega
          · obtain rfl : j = s.length := by omega
            clear hck
            have HZ := Lib.hid (own_below HM.out.out hBY)
            go_wp2_with (at_builtin; refine wpList_app _ rfl (.tmp 46) (.tmp 48) slRows rfl rfl (HZ.out.alloc _) rfl (rd_lit _ _ _ rfl rfl) (by intro u hu; simp at hu; subst hu; rfl) (m + 1) rfl (by unfold maxLen; omega) (by omega) (by simp; omega) ?_; intro A5 c5 Y3 g1 g2 g3 g4 g5)
            go_roundw
            case rel => exact ⟨k + 1, m + 1, A5, c5, A4, c4, _, by omega, by omega, by go_num, rfl, rfl, Lib.hid (HM.out.next HF.out hBX hBY (b_alloc (Below.refl _ _) _) HJ.out HO.out g3 g4 ⟨g1, g2⟩), below_app (b_alloc hBYw _) (HZ.out.alloc _) g4 (Nat.le_refl _) (by simp; omega)⟩
            case measure => simp [intOf]; omega
      · have hq : decide (x ∈ doneL s f k) = true := by
          rw [decide_eq_true_iff]
          exact HD.out.2 hf
        have HF := Lib.hid hf
        have HQ := Lib.hid hq
        clear hf HD hq
        go_wp2_with fail
        refine (has_is A2 m c2 (doneL s f k) x _ _ (by omega) RDn.out HQ.out).mono ?_
        rintro e w_ ⟨rfl, rfl⟩
        clear RDn
        go_wp2
        go_roundw
        case rel => exact ⟨k + 1, m, A1, c1, A2, c2, vs, by omega, by omega, by go_num, rfl, rfl, Lib.hid (HG.out.skip HF.out), hB⟩
        case measure => simp [intOf]; omega
    · obtain rfl : k = s.length := by omega
      have hm : m = (groupsI f s.length).length := by rw [groupsI_len]; exact HG.out.hm
      have HMM := Lib.hid hm
      clear hm
      go_wp2
      go_ret
      exact ⟨A1, c1, vs, by rw [← HMM.out]; rfl, by rw [← HMM.out]; exact HG.out.hc1.1, HG.out.hc1.2, by rw [← HMM.out]; exact HG.out.out, by rw [← headRows_all]; exact HG.out.rows, hB⟩
end Go.Proofs.Ytjmhibjkbnbefaa
