/-
  WHAT IS PROVED HERE: the contract of the reference's Acts. No condition but that the numbers are a machine's.
-/
import Derived.Test.YtdjmaljldajpiaaIqN
import Derived.Test.YtdjmaljldajpiaaStep
namespace Go.Proofs.Ytdjmaljldajpiaa
set_option linter.unusedVariables false
open Go.ChangeShapes Go.WideShapes Go.ChangeAt Go.RowKit

/-- The calls come back in new memory. -/
def RetActs (w : World) (l : List Int) (k : Int) (m : Nat) (e : Ending) (w' : World) : Prop :=
  ∃ A c, e = .returned (.slice A m c) ∧ w'.ownsRow w.heap.size 36 7 (.slice A m c) m (actsC l k m) ∧ Below w.heap.size w w'
theorem getD_get {l : List Int} {i : Nat} (h : i < l.length) : l.getD i 0 = l[i] := by simp [List.getD_eq_getElem?_getD, h]
set_option maxRecDepth 100000 in
set_option maxHeartbeats 2000000 in
theorem acts_any (A : Option Addr) (n c : Nat) (l : List Int) (k : Int) (w : World) (hk : 1 ≤ k) (hk8 : k ≤ 8) (hl : l.length = n) (rd : Rd w w.heap.size 1 A n (l.map (Value.int .i64))) (h64 : ∀ x ∈ l, -9223372036854775808 ≤ x ∧ x ≤ 9223372036854775807) (hn : n ≤ 9223372036854775807) :
    Calls Try.prog 12 #[.slice A n c, .int .i64 k] w (RetActs w l k (min n 40)) := by
  have RD := Lib.hid rd
  have H64 := Lib.hid h64
  have HL := Lib.hid hl
  clear rd h64 hl
  obtain ⟨m, hm⟩ : ∃ m, min n 40 = m := ⟨_, rfl⟩
  rw [hm]
  have hm1 : m ≤ n := by omega
  have hm2 : m ≤ 40 := by omega
  have hm3 : m = n ∨ m = 40 := by omega
  have HM3 := Lib.hid hm3
  clear hm hm3
  go_enter Try.func12, Try.ntmps12
  go_wp2
  go_loopw [5, 6, 7] (fun s5 s6 s7 wr => ∃ (i : Nat) (A1 : Option Addr) (c1 : Nat), i ≤ m ∧ s7 = .int .i64 i ∧ s6 = .int .i64 (nowAt l i) ∧ s5 = .slice A1 i c1 ∧ Hid (wr.ownsRow w.heap.size 36 7 (.slice A1 i c1) i (actsC l k i)) ∧ Below w.heap.size w wr) (fun _ _ i _ => m - (intOf i).toNat)
  case atStart => exact ⟨0, none, 0, by omega, rfl, rfl, rfl, Lib.hid (own_nil _ _ _ _), Below.refl _ _⟩
  case round =>
    obtain ⟨i, A1, c1, hi, rfl, rfl, rfl, HO, hB⟩ := hrel
    by_cases hlt : i < m
    · have d1 : decide (i < n) = true := decide_eq_true (by omega)
      have d2 : decide ((i : Int) < 40) = true := decide_eq_true (by omega)
      have d2' : decide (i < 40) = true := decide_eq_true (by omega)
      obtain ⟨b0, o0, hil, rfl, hb0, hcell⟩ := (RD.out.below hB (Nat.le_refl _)).openMap (k := i) (by omega)
      have hx64 := H64.out _ (List.getElem_mem hil)
      have hgd := getD_get hil
      obtain ⟨v, hv⟩ : ∃ v, l[i] = v := ⟨_, rfl⟩
      rw [hv] at hcell hx64 hgd
      have HG := Lib.hid hgd
      clear hv hgd
      have hnb := around_bd v 10000000 (by omega)
      obtain ⟨N, hN⟩ : ∃ N, around v 10000000 = N := ⟨_, rfl⟩
      have HN := Lib.hid hN
      rw [hN] at hnb
      obtain ⟨r, hr, hr7⟩ : ∃ r : Nat, N % 7 = (r : Int) ∧ r < 7 := ⟨(N % 7).toNat, by omega, by omega⟩
      have HST := step_lit v (by rw [hN]; exact hr) hr7
      have hsb := stepV_bd v
      have hwb := nowAt_bd l i
      obtain ⟨t0, ht0⟩ : ∃ t, nowAt l i = t := ⟨_, rfl⟩
      obtain ⟨dv, hdv⟩ : ∃ t, stepV v = t := ⟨_, rfl⟩
      rw [ht0] at hwb ⊢
      rw [hdv] at HST hsb
      have HT := Lib.hid ht0
      have HD := Lib.hid hdv
      obtain ⟨hx1, hx2⟩ := hx64
      obtain ⟨hn1, hn2⟩ := hnb
      clear hN ht0 hdv
      go_wp2_with fail
      refine (around_any v 10000000 _ hx1 hx2 (by omega) (by omega)).mono ?_
      rintro e w_ ⟨rfl, rfl⟩
      rw [HN.out]
      go_wp2_with fail
      refine name_world ?_
      intro X hX
      have hBX : Below wr.heap.size wr X := by rw [hX]; (repeat (first | (with_reducible exact Below.refl _ _) | (with_reducible assumption) | (with_reducible refine b_drew ?_) | (with_reducible refine b_drewN ?_ _) | (with_reducible refine b_alloc ?_ _) | ((with_reducible refine b_set ?_ ?_ _); rotate_left; (focus (first | omega | (simp; done) | (simp; omega) | (simp at *; omega)))) | (with_reducible refine b_call ?_ (by with_reducible assumption))))
      have hk0 : 0 ≤ N / 7 % k := Int.emod_nonneg _ (by omega)
      have hk1 : N / 7 % k < k := Int.emod_lt_of_pos _ (by omega)
      have kz : (k = 0) = False := eq_false (by omega)
      have q1 : IntKind.i64.wrap (N.tdiv 7) = N / 7 := (IntWalk.i64_in _ (by rw [Int.tdiv_eq_ediv_of_nonneg hn1]; omega)).trans (Int.tdiv_eq_ediv_of_nonneg hn1)
      have q2 : (N / 7).tmod k = N / 7 % k := Int.tmod_eq_emod_of_nonneg (by omega)
      have q3 : IntKind.i64.wrap (N.tdiv 56) = N / 56 := (IntWalk.i64_in _ (by rw [Int.tdiv_eq_ediv_of_nonneg hn1]; omega)).trans (Int.tdiv_eq_ediv_of_nonneg hn1)
      have q4 : (N / 56).tmod 9 = N / 56 % 9 := Int.tmod_eq_emod_of_nonneg (by omega)
      have q5 : IntKind.i64.wrap (N.tdiv 504) = N / 504 := (IntWalk.i64_in _ (by rw [Int.tdiv_eq_ediv_of_nonneg hn1]; omega)).trans (Int.tdiv_eq_ediv_of_nonneg hn1)
      have q6 : IntKind.i64.wrap (t0 + dv + N / 56 % 9) = t0 + dv + N / 56 % 9 := IntWalk.i64_in _ (by omega)
      have q7 : IntKind.i64.wrap (t0 + dv + N / 56 % 9 - 3) = t0 + dv + N / 56 % 9 - 3 := IntWalk.i64_in _ (by omega)
      clear hX hr HST
      go_cut [9] from 32 to 46 (fun s9 wx => ∃ g, s9 = .pointer (some ⟨g, 0, none⟩) ∧ wr.heap.size ≤ g ∧ Hid (Vr wx g 36 #[.int .i64 0, .int .i64 (t0 + dv), .int .i64 (N / 7 % k), .int .i64 (t0 + dv + N / 56 % 9 - 3), .int .i64 (inpOf (N / 504)).1, .int .i64 (inpOf (N / 504)).2.1, .int .i64 (inpOf (N / 504)).2.2]) ∧ Below wr.heap.size wr wx)
      case first =>
        refine wp_region_any (by kernel_rfl) ?_
        change wpAny _ _ _ _ _ _ _ (World.drew _)
        refine take_at (i := 0) (some 32) (v := ?vg125) rfl rfl (by kernel_rfl) (by kernel_rfl) (by kernel_rfl) (fun _ _ _ h => h) (Or.inl ⟨by rfl, ?hg125⟩) ?rg125
        case hg125 => (intro w0; go_simp; try with_reducible rfl)
        simp only [Act.put, List.setIfInBounds_toArray, List.set_cons_zero, List.set_cons_succ]
        refine take_at (i := 1) (some 33) (v := ?vg126) rfl rfl (by kernel_rfl) (by kernel_rfl) (by kernel_rfl) (fun _ _ _ h => h) (Or.inl ⟨by rfl, ?hg126⟩) ?rg126
        case hg126 => (intro w0; go_simp; try with_reducible rfl)
        simp only [Act.put, List.setIfInBounds_toArray, List.set_cons_zero, List.set_cons_succ]
        refine take_at (i := 2) (some 34) (v := ?vg127) rfl rfl (by kernel_rfl) (by kernel_rfl) (by kernel_rfl) (fun _ _ _ h => h) (Or.inl ⟨by rfl, ?hg127⟩) ?rg127
        case hg127 => (intro w0; go_simp; try with_reducible rfl)
        simp only [Act.put, List.setIfInBounds_toArray, List.set_cons_zero, List.set_cons_succ]
        refine take_at (i := 3) (some 35) (v := ?vg128) rfl rfl (by kernel_rfl) (by kernel_rfl) (by kernel_rfl) (fun _ _ _ h => h) (Or.inl ⟨by rfl, ?hg128⟩) ?rg128
        case hg128 => (intro w0; go_simp; try with_reducible rfl)
        simp only [Act.put, List.setIfInBounds_toArray, List.set_cons_zero, List.set_cons_succ]
        refine take_at (i := 4) (some 36) (v := ?vg129) rfl rfl (by kernel_rfl) (by kernel_rfl) (by kernel_rfl) (fun _ _ _ h => h) (Or.inl ⟨by rfl, ?hg129⟩) ?rg129
        case hg129 => (intro w0; go_simp; try with_reducible rfl)
        simp only [Act.put, List.setIfInBounds_toArray, List.set_cons_zero, List.set_cons_succ]
        refine take_at (i := 5) (some 37) (v := ?vg130) rfl rfl (by kernel_rfl) (by kernel_rfl) (by kernel_rfl) (fun _ _ _ h => h) (Or.inl ⟨by rfl, ?hg130⟩) ?rg130
        case hg130 => (intro w0; go_simp; try with_reducible rfl)
        simp only [Act.put, List.setIfInBounds_toArray, List.set_cons_zero, List.set_cons_succ]
        refine take_at (i := 6) (some 38) (v := ?vg131) rfl rfl (by kernel_rfl) (by kernel_rfl) (by kernel_rfl) (fun _ _ _ h => h) (Or.inl ⟨by rfl, ?hg131⟩) ?rg131
        case hg131 => (intro w0; go_simp; try with_reducible rfl)
        simp only [Act.put, List.setIfInBounds_toArray, List.set_cons_zero, List.set_cons_succ]
        refine take_at (i := 7) (some 39) (v := ?vg132) rfl rfl (by kernel_rfl) (by kernel_rfl) (by kernel_rfl) (fun _ _ _ h => h) (Or.inl ⟨by rfl, ?hg132⟩) ?rg132
        case hg132 => (intro w0; go_simp; try with_reducible rfl)
        simp only [Act.put, List.setIfInBounds_toArray, List.set_cons_zero, List.set_cons_succ]
        refine take_at (i := 8) (some 40) (v := ?vg133) rfl rfl (by kernel_rfl) (by kernel_rfl) (by kernel_rfl) (fun _ _ _ h => h) (Or.inl ⟨by rfl, ?hg133⟩) ?rg133
        case hg133 => (intro w0; go_simp; try with_reducible rfl)
        simp only [Act.put, List.setIfInBounds_toArray, List.set_cons_zero, List.set_cons_succ]
        refine take_at (i := 9) (some 41) (v := ?vg134) rfl rfl (by kernel_rfl) (by kernel_rfl) (by kernel_rfl) (fun _ _ _ h => h) (Or.inl ⟨by rfl, ?hg134⟩) ?rg134
        case hg134 => (intro w0; go_simp; try with_reducible rfl)
        simp only [Act.put, List.setIfInBounds_toArray, List.set_cons_zero, List.set_cons_succ]
        refine take_at (i := 10) (some 42) (v := ?vg135) rfl rfl (by kernel_rfl) (by kernel_rfl) (by kernel_rfl) (fun _ _ _ h => h) (Or.inl ⟨by rfl, ?hg135⟩) ?rg135
        case hg135 => (intro w0; go_simp; try with_reducible rfl)
        simp only [Act.put, List.setIfInBounds_toArray, List.set_cons_zero, List.set_cons_succ]
        refine take_at (i := 11) (some 43) (v := ?vg136) rfl rfl (by kernel_rfl) (by kernel_rfl) (by kernel_rfl) (fun _ _ _ h => h) (Or.inl ⟨by rfl, ?hg136⟩) ?rg136
        case hg136 => (intro w0; go_simp; try with_reducible rfl)
        simp only [Act.put, List.setIfInBounds_toArray, List.set_cons_zero, List.set_cons_succ]
        refine take_at (i := 12) (some 44) (v := ?vg137) rfl rfl (by kernel_rfl) (by kernel_rfl) (by kernel_rfl) (fun _ _ _ h => h) (Or.inl ⟨by rfl, ?hg137⟩) ?rg137
        case hg137 => (intro w0; go_simp; try with_reducible rfl)
        simp only [Act.put, List.setIfInBounds_toArray, List.set_cons_zero, List.set_cons_succ]
        refine wpAny_ready (rs := [13, 15]) (by kernel_rfl) (by simp) ?_
        refine AllReady.cons (o := _) rfl (fun K hK => ?_) (AllReady.cons (o := _) rfl (fun K hK => ?_) AllReady.nil)
        · go_simp
          refine (of_any (N / 504) _ (by omega) (by omega)).mono ?_
          rintro e w3 ⟨rfl, hb3⟩
          have hz3 := hb3.size
          refine hK _ _ ?_
          clear hK K
          refine take_at (i := 14) (some 46) (v := ?vg138) rfl rfl (by kernel_rfl) (by kernel_rfl) (by kernel_rfl) (fun _ _ _ h => h) (Or.inl ⟨by rfl, ?hg138⟩) ?rg138
          case hg138 => (intro w0; go_simp; try with_reducible rfl)
          simp only [Act.put, List.setIfInBounds_toArray, List.set_cons_zero, List.set_cons_succ]
          refine wpAny_ready (rs := [15]) (by kernel_rfl) (by simp) ?_
          refine AllReady.cons (o := _) rfl (fun K hK => ?_) AllReady.nil
          go_simp
          refine hK _ _ ?_
          clear hK K
          refine wpAny_ready (rs := [16]) (by kernel_rfl) (by simp) ?_
          refine AllReady.cons (o := _) rfl (fun K hK => ?_) AllReady.nil
          go_simp
          refine hK _ _ ?_
          clear hK K
          refine wpAny_done (by kernel_rfl) ?_ _
          go_wp2
          go_meet
          case rel => exact ⟨_, rfl, (by have := hBX.size; have := hb3.size; simp at *; omega), Lib.hid (Vr.new w3 _ _), hBX.trans ((b_alloc (b_call (b_drew (Below.refl _ _)) hb3) _).mono hBX.size)⟩
        · go_simp
          refine hK _ _ ?_
          clear hK K
          refine wpAny_ready (rs := [13]) (by kernel_rfl) (by simp) ?_
          refine AllReady.cons (o := _) rfl (fun K hK => ?_) AllReady.nil
          go_simp
          refine (of_any (N / 504) _ (by omega) (by omega)).mono ?_
          rintro e w3 ⟨rfl, hb3⟩
          have V3 := (show Vr w3 X.heap.size 36 #[.int .i64 0, .int .i64 0, .int .i64 0, .int .i64 0, .int .i64 0, .int .i64 0, .int .i64 0] from (Vr.new X.drew 36 #[.int .i64 0, .int .i64 0, .int .i64 0, .int .i64 0, .int .i64 0, .int .i64 0, .int .i64 0]).call hb3)
          have V3H := Lib.hid V3
          obtain ⟨v1, v2, v3⟩ := V3.facts
          clear V3
          refine hK _ _ ?_
          clear hK K
          refine take_at (i := 14) (some 46) (v := ?vg146) rfl rfl (by kernel_rfl) (by kernel_rfl) (by kernel_rfl) (fun _ _ _ h => h) (Or.inl ⟨by rfl, ?hg146⟩) ?rg146
          case hg146 => (intro w0; go_simp; try with_reducible rfl)
          simp only [Act.put, List.setIfInBounds_toArray, List.set_cons_zero, List.set_cons_succ]
          refine wpAny_ready (rs := [16]) (by kernel_rfl) (by simp) ?_
          refine AllReady.cons (o := _) rfl (fun K hK => ?_) AllReady.nil
          go_simp
          refine hK _ _ ?_
          clear hK K
          refine wpAny_done (by kernel_rfl) ?_ _
          go_wp2
          go_meet
          case rel => exact ⟨_, rfl, hBX.size, Lib.hid (by have := (((((((V3H.out.set 0 (.int .i64 0)).set 1 (.int .i64 (t0 + dv))).set 2 (.int .i64 (N / 7 % k))).set 3 (.int .i64 (t0 + dv + N / 56 % 9 - 3))).set 4 (.int .i64 (inpOf (N / 504)).1)).set 5 (.int .i64 (inpOf (N / 504)).2.1)).set 6 (.int .i64 (inpOf (N / 504)).2.2)); simpa using this), hBX.trans (Below.mono (b_set (b_set (b_set (b_set (b_set (b_set (b_set (b_call (b_alloc (b_drew (Below.refl X.heap.size X)) _) hb3) (Nat.le_refl _) _) (Nat.le_refl _) _) (Nat.le_refl _) _) (Nat.le_refl _) _) (Nat.le_refl _) _) (Nat.le_refl _) _) (Nat.le_refl _) _) hBX.size)⟩
      case rest =>
        obtain ⟨g, rfl, hg, HV, hBc⟩ := hcut
        obtain ⟨X0, rfl⟩ : ∃ W : World, W = wc := ⟨_, rfl⟩
        go_upto_if 50 with fail
        go_cut [] from 47 to 52 (fun wx => Hid (Vr wx g 36 #[.int .i64 0, .int .i64 (t0 + dv), .int .i64 (actPl k N), .int .i64 (t0 + dv + N / 56 % 9 - 3), .int .i64 (inpOf (N / 504)).1, .int .i64 (inpOf (N / 504)).2.1, .int .i64 (inpOf (N / 504)).2.2]) ∧ Below wr.heap.size wr wx)
        case first =>
          obtain ⟨v1, v2, v3⟩ := HV.out.facts
          by_cases hc : N / 7 % 17 = 16
          · have q : (N / 7 % 17 == 16) = true := by rw [beq_iff_eq]; exact hc
            have HC := Lib.hid hc
            clear hc
            go_wp2
            go_meet
            case rel =>
              have hc := HC.out
              exact ⟨Lib.hid (by have := HV.out.set 2 (.int .i64 k); rw [show actPl k N = k from if_pos hc]; simpa using this), b_set hBc hg _⟩
          · have q : (N / 7 % 17 == 16) = false := by rw [beq_eq_false_iff_ne]; exact hc
            have HC := Lib.hid hc
            clear hc
            go_wp2
            go_meet
            case rel =>
              have hc := HC.out
              exact ⟨Lib.hid (by rw [show actPl k N = (N / 7 % k) from if_neg hc]; exact HV.out), hBc⟩
        case' rest =>
          clear HV hBc
        obtain ⟨HV, hBc⟩ := hcut
        obtain ⟨X1, rfl⟩ : ∃ W : World, W = wc := ⟨_, rfl⟩
        go_upto_if 56 with fail
        go_cut [] from 53 to 59 (fun wx => Hid (Vr wx g 36 #[.int .i64 0, .int .i64 (t0 + dv), .int .i64 (actPl k N), .int .i64 (actTk (t0 + dv) N), .int .i64 (inpOf (N / 504)).1, .int .i64 (inpOf (N / 504)).2.1, .int .i64 (inpOf (N / 504)).2.2]) ∧ Below wr.heap.size wr wx)
        case first =>
          obtain ⟨v1, v2, v3⟩ := HV.out.facts
          by_cases hc : N / 504 % 23 = 22
          · have q : (N / 504 % 23 == 22) = true := by rw [beq_iff_eq]; exact hc
            have HC := Lib.hid hc
            clear hc
            go_wp2
            go_meet
            case rel =>
              have hc := HC.out
              exact ⟨Lib.hid (by have := HV.out.set 3 (.int .i64 (t0 + dv + 9)); rw [show actTk (t0 + dv) N = (t0 + dv + 9) from if_pos hc]; simpa using this), b_set hBc hg _⟩
          · have q : (N / 504 % 23 == 22) = false := by rw [beq_eq_false_iff_ne]; exact hc
            have HC := Lib.hid hc
            clear hc
            go_wp2
            go_meet
            case rel =>
              have hc := HC.out
              exact ⟨Lib.hid (by rw [show actTk (t0 + dv) N = (t0 + dv + N / 56 % 9 - 3) from if_neg hc]; exact HV.out), hBc⟩
        case' rest =>
          clear HV hBc
        obtain ⟨HV, hBc⟩ := hcut
        obtain ⟨X2, rfl⟩ : ∃ W : World, W = wc := ⟨_, rfl⟩
        go_upto_if 63 with fail
        go_cut [] from 60 to 65 (fun wx => Hid (Vr wx g 36 #[.int .i64 0, .int .i64 (t0 + dv), .int .i64 (actPl k N), .int .i64 (actTk (t0 + dv) N), .int .i64 (actX N).1, .int .i64 (actX N).2.1, .int .i64 (actX N).2.2]) ∧ Below wr.heap.size wr wx)
        case first =>
          obtain ⟨v1, v2, v3⟩ := HV.out.facts
          by_cases hc : N / 504 % 29 = 28
          · have q : (N / 504 % 29 == 28) = true := by rw [beq_iff_eq]; exact hc
            have HC := Lib.hid hc
            clear hc
            go_wp2
            go_meet
            case rel =>
              have hc := HC.out
              exact ⟨Lib.hid (by have := HV.out.set 4 (.int .i64 2); rw [show actX N = (2, (inpOf (N / 504)).2.1, (inpOf (N / 504)).2.2) from if_pos hc]; simpa using this), b_set hBc hg _⟩
          · have q : (N / 504 % 29 == 28) = false := by rw [beq_eq_false_iff_ne]; exact hc
            have HC := Lib.hid hc
            clear hc
            go_wp2
            go_meet
            case rel =>
              have hc := HC.out
              exact ⟨Lib.hid (by rw [show actX N = inpOf (N / 504) from if_neg hc]; exact HV.out), hBc⟩
        case' rest =>
          clear HV hBc
        obtain ⟨HV, hBc⟩ := hcut
        obtain ⟨X3, rfl⟩ : ∃ W : World, W = wc := ⟨_, rfl⟩
        go_upto_if 69 with fail
        go_cut [] from 66 to 70 (fun wx => Hid (Vr wx g 36 #[.int .i64 (actD N), .int .i64 (t0 + dv), .int .i64 (actPl k N), .int .i64 (actTk (t0 + dv) N), .int .i64 (actX N).1, .int .i64 (actX N).2.1, .int .i64 (actX N).2.2]) ∧ Below wr.heap.size wr wx)
        case first =>
          obtain ⟨v1, v2, v3⟩ := HV.out.facts
          by_cases hc : N / 3 % 5 = 0
          · have q : (N / 3 % 5 == 0) = true := by rw [beq_iff_eq]; exact hc
            have HC := Lib.hid hc
            clear hc
            go_wp2
            go_meet
            case rel =>
              have hc := HC.out
              exact ⟨Lib.hid (by have := HV.out.set 0 (.int .i64 1); rw [show actD N = 1 from if_pos hc]; simpa using this), b_set hBc hg _⟩
          · have q : (N / 3 % 5 == 0) = false := by rw [beq_eq_false_iff_ne]; exact hc
            have HC := Lib.hid hc
            clear hc
            go_wp2
            go_meet
            case rel =>
              have hc := HC.out
              exact ⟨Lib.hid (by rw [show actD N = 0 from if_neg hc]; exact HV.out), hBc⟩
        case' rest =>
          clear HV hBc
        obtain ⟨HV, hBc⟩ := hcut
        obtain ⟨X4, rfl⟩ : ∃ W : World, W = wc := ⟨_, rfl⟩
        obtain ⟨v1, v2, v3⟩ := HV.out.facts
        have EA := Lib.hid (show actAt l k i = ⟨actD N, t0 + dv, actPl k N, actTk (t0 + dv) N, actX N⟩ from by
          unfold actAt
          rw [HG.out]
          have e : nowAt l (i + 1) = t0 + dv := by
            show nowAt l i + stepV (l.getD i 0) = _
            rw [HG.out, HT.out, HD.out]
          rw [e]
          unfold actF
          rw [HN.out])
        have ET := Lib.hid (show nowAt l (i + 1) = t0 + dv from by
          show nowAt l i + stepV (l.getD i 0) = _
          rw [HG.out, HT.out, HD.out])
        have HO4 := Lib.hid (own_below HO.out hBc)
        have hzz := hBc.size
        have hzw := hB.size
        clear q1 q2 q3 q4 q5 q6 q7
        go_wp2_with (at_builtin; refine wpList_app _ rfl (.tmp 71) (.tmp 73) slActs rfl rfl (HO4.out.alloc _) rfl (rd_lit _ _ _ rfl rfl) (by intro u hu; simp at hu; rcases hu with h | h | h | h | h | h | h <;> (subst h; rfl)) (i + 1) rfl (by unfold maxLen; omega) (by omega) (by simp; omega) ?_; intro A5 c5 Y3 g1 g2 g3 g4 g5)
        go_roundw
        case rel => exact ⟨i + 1, A5, c5, by omega, by go_num, by rw [ET.out], rfl, Lib.hid (by rw [actsC_succ, EA.out]; exact g3), below_app (b_alloc (b_call hB hBc) _) (HO4.out.alloc _) g4 (Nat.le_refl _) (by simp; omega)⟩
        case measure => simp [intOf]; omega
    · obtain rfl : i = m := by omega
      have HF : RetActs w l k i (.returned (.slice A1 i c1)) wr := ⟨A1, c1, rfl, HO.out, hB⟩
      have HF := Lib.hid HF
      rcases HM3.out with hq | hq
      · have d1 : decide (i < n) = false := decide_eq_false (by omega)
        clear hq
        go_wp2
        go_ret
        exact HF.out
      · by_cases h1 : i < n
        · have d1 : decide (i < n) = true := decide_eq_true h1
          have d2 : decide ((i : Int) < 40) = false := decide_eq_false (by omega)
          have d2' : decide (i < 40) = false := decide_eq_false (by omega)
          clear hq
          go_wp2
          go_ret
          exact HF.out
        · have d1 : decide (i < n) = false := decide_eq_false h1
          clear hq
          go_wp2
          go_ret
          exact HF.out
end Go.Proofs.Ytdjmaljldajpiaa
