/-
  WHAT IS PROVED HERE: the law MerkleRejects answers true. No condition but that its arguments lie in memory, and bounds that every machine's lengths meet.
-/
import Derived.Test.YtgelhcgaacnjcaaMlA
import Derived.Test.YtgelhcgaacnjcaaMlT
import Derived.Test.YtgelhcgaacnjcaaMkV
namespace Go.Proofs.Ytgelhcgaacnjcaa
set_option linter.unusedVariables false
open Go.ChangeShapes Go.WideShapes Go.ChangeAt Go.RowKit

theorem slLeaf : SlT Try.prog 46 25 3 40 := .mk' (z := .agg #[.int .i64 0, .int .i64 0, .slice none 0 0]) Try.underlying46 (by kernel_rfl) rfl (by omega)
theorem lfC_one (r : LfR) : ∀ u ∈ lfC r, u.oneCell' = true := by
  intro u hu
  simp [lfC] at hu
  rcases hu with rfl | rfl | rfl <;> rfl
theorem lf_len (cs : List Int) (x : Int) (h : cs.length ≤ 1000) : (lfOf cs x).2.2.length ≤ 1000 := by
  unfold lfOf
  split
  · rw [prfV_len, List.length_range]
    have := hgt_min (n := cs.length) (j := 10) (by omega)
    omega
  · simp
set_option maxRecDepth 100000 in
set_option maxHeartbeats 4000000 in
theorem rejects_walk (A0 : Option Addr) (n0 c0 : Nat) (l0 : List Int) (A1 : Option Addr) (n1 c1 : Nat) (l1 : List Int) (which how by_ : Int) (A5 : Option Addr) (n5 c5 : Nat) (l5 : List Int) (w : World)
    (rd0 : Rd w w.heap.size 1 A0 n0 (l0.map (Value.int .i64))) (nc0 : n0 ≤ c0) (cm0 : c0 ≤ maxLen) (rd1 : Rd w w.heap.size 1 A1 n1 (l1.map (Value.int .i64))) (hl1 : ∀ x ∈ l1, I64 x) (nc1 : n1 ≤ maxLen)
    (hw : I64 which) (hh : I64 how) (hb : I64 by_) (rd5 : Rd w w.heap.size 1 A5 n5 (l5.map (Value.int .i64))) (nc5 : n5 ≤ c5) (cm5 : c5 ≤ maxLen) :
    Calls Try.prog 8 #[.slice A0 n0 c0, .slice A1 n1 c1, .int .i64 which, .int .i64 how, .int .i64 by_, .slice A5 n5 c5] w fun e w' => e = .returned (.bool true) ∧ Below w.heap.size w w' := by
  unfold maxLen at nc1
  have R0 := Lib.hid rd0
  have R1 := Lib.hid rd1
  have R5 := Lib.hid rd5
  have H0 := Lib.hid (And.intro nc0 cm0)
  have H5 := Lib.hid (And.intro nc5 cm5)
  have HL1 := Lib.hid hl1
  have HW := Lib.hid hw
  have HH := Lib.hid hh
  have HBy := Lib.hid hb
  clear rd0 rd1 rd5 nc0 cm0 nc5 cm5 hl1 hw hh hb
  go_enter Try.func8, Try.ntmps8
  go_wp2_with fail
  refine (cells_any A0 n0 c0 l0 _ R0.out H0.out.1 H0.out.2).mono ?_
  obtain ⟨q, hq⟩ : ∃ q, min n0 20 = q := ⟨_, rfl⟩
  have hq20 : q ≤ 20 := by omega
  rw [hq]
  obtain ⟨cs, hcs⟩ : ∃ cs, l0.take 20 = cs := ⟨_, rfl⟩
  rw [hcs]
  rintro e w2 ⟨A2, c2, rfl, k1, k2, own2, hb2⟩
  have R2 := Lib.hid (rd_own own2)
  have HCL := Lib.hid (show cs.length = q from by have := own2.1; simpa using this)
  have R12 := Lib.hid (rd_step R1.out hb2)
  have R52 := Lib.hid (rd_step R5.out hb2)
  have B2 := Lib.hid hb2
  clear hq hcs own2 hb2 R0 R1 R5 k1 k2
  go_wp2_with fail
  refine (cells_any A5 n5 c5 l5 _ R52.out H5.out.1 H5.out.2).mono ?_
  obtain ⟨q5, hq5⟩ : ∃ q, min n5 20 = q := ⟨_, rfl⟩
  have hq520 : q5 ≤ 20 := by omega
  rw [hq5]
  obtain ⟨cs5, hcs5⟩ : ∃ cs, l5.take 20 = cs := ⟨_, rfl⟩
  rw [hcs5]
  rintro e w3 ⟨A3, c3, rfl, k1, k2, own3, hb3⟩
  have R53 := Lib.hid (rd_own own3)
  have HCL5 := Lib.hid (show cs5.length = q5 from by have := own3.1; simpa using this)
  have R13 := Lib.hid (rd_step R12.out hb3)
  have R3 := Lib.hid (rd_step R2.out hb3)
  have B3 := Lib.hid (b_call B2.out hb3)
  clear hq5 hcs5 own3 hb3 R12 R52 R2 B2 k1 k2
  go_wp2_with fail
  refine (rroot_any A2 q c2 cs _ R3.out (by omega)).mono ?_
  rintro e w4 ⟨rfl, hb4⟩
  obtain ⟨root, hroot⟩ : ∃ r, nV cs (hgt cs.length) 0 = r := ⟨_, rfl⟩
  rw [hroot]
  have R14 := Lib.hid (rd_step R13.out hb4)
  have R4 := Lib.hid (rd_step R3.out hb4)
  have R54 := Lib.hid (rd_step R53.out hb4)
  have B4 := Lib.hid (b_call B3.out hb4)
  clear hroot hb4 R13 R3 R53 B3
  go_wp2
  obtain ⟨b0, hb0⟩ : ∃ b, w4.heap.size = b := ⟨_, rfl⟩
  have HB0 := Lib.hid hb0
  have OE := Lib.hid (own_nil w4 b0 25 3)
  go_loopw [16, 17] (fun s16 s17 wr => ∃ (k : Nat) (Ar : Option Addr) (cr : Nat) (rs : List LfR), k ≤ n1 ∧ k ≤ 6 ∧ s17 = .int .i64 k ∧ s16 = .slice Ar k cr ∧ Hid (wr.ownsRow b0 25 3 (.slice Ar k cr) k (lfCs rs)) ∧ Hid (LfOwn wr b0 rs) ∧ Hid (∀ r ∈ rs, r.m ≤ 1000) ∧ Hid (Below w4.heap.size w4 wr)) (fun _ s _ => n1 - (intOf s).toNat)
  case atStart => exact ⟨0, none, 0, [], by omega, by omega, rfl, rfl, OE, Lib.hid (LfOwn.nil _ _), Lib.hid (by simp), Lib.hid (Below.refl _ _)⟩
  case round =>
    obtain ⟨k, Ar, cr, rs, hk, hk6, rfl, rfl, HO, HL, HM, HB⟩ := hrel
    clear OE hb0
    by_cases hlt : k < n1
    · by_cases hl6 : k < 6
      · obtain ⟨b1, o1, hl, rfl, hb1, hcell⟩ := (R14.out.below HB.out (Nat.le_refl _)).openMap hlt
        have hx1 := HL1.out _ (List.getElem_mem hl)
        obtain ⟨x, hx⟩ : ∃ x, l1[k] = x := ⟨_, rfl⟩
        rw [hx] at hcell hx1
        obtain ⟨j1, j2⟩ : (0 : Int) ≤ (k : Int) ∧ (k : Int) < (n1 : Int) := by omega
        have hsz := HB.out.size
        have ha := around_bd x ((q : Int) + 1) (by omega)
        clear hx hl
        go_wp2_with fail
        refine (around_any x ((q : Int) + 1) _ hx1.1 hx1.2 (by omega) (by omega)).mono ?_
        rintro e w_ ⟨rfl, rfl⟩
        obtain ⟨kx, hkx⟩ : ∃ y : Int, around x ((q : Int) + 1) = y := ⟨_, rfl⟩
        rw [hkx]
        have R4w := Lib.hid (rd_step R4.out HB.out)
        clear ha hkx hcell hx1
        go_wp2_with fail
        refine (rprove_any A2 q c2 cs kx _ R4w.out (by omega)).mono ?_
        obtain ⟨xi, xv, xp, hx⟩ : ∃ a b c, lfOf cs kx = (a, b, c) := ⟨_, _, _, rfl⟩
        have hxp := lf_len cs kx (by rw [HCL.out]; omega)
        rw [hx] at hxp ⊢
        simp only at hxp
        rintro e w5 ⟨Ax, cx, rfl, own5, k3, k4, hb5⟩
        obtain ⟨xm, hxm⟩ : ∃ m, xp.length = m := ⟨_, rfl⟩
        simp only [hxm] at own5 k3 hxp ⊢
        have hs5 := hb5.size
        have OW := Lib.hid (own_below (own_below HO.out hb5) (b_alloc (Below.refl w5.heap.size w5) (.cells #[.int .i64 xi, .int .i64 xv, .slice Ax xm cx] 25)))
        have RB := Lib.hid (rd_lit w5 #[.int .i64 xi, .int .i64 xv, .slice Ax xm cx] 25 (sz := 3) (m := 1) (xs := lfC ⟨xi, xv, Ax, xm, cx, xp⟩) rfl rfl)
        have HLW := Lib.hid ((HL.out.below hb5).snoc (r := ⟨xi, xv, Ax, xm, cx, xp⟩) (own_mono own5 (by have := HB0.out; omega)))
        have HB5 := Lib.hid (b_alloc (b_call HB.out hb5) (.cells #[.int .i64 xi, .int .i64 xv, .slice Ax xm cx] 25))
        have hbase : b0 ≤ (w5.alloc (.cells #[.int .i64 xi, .int .i64 xv, .slice Ax xm cx] 25)).heap.size := by have := HB0.out; simp; omega
        clear own5 hb5 HO HL R4w hx hxm k3 k4
        go_wp2_with (first | (refine wpList_build1 rfl (.tmp 47) slLeaf rfl (by omega) #[.int .i64 xi, .int .i64 xv, .slice Ax xm cx] rfl rfl ?_) | (at_builtin; refine wpList_app _ rfl (.tmp 37) (.tmp 48) slLeaf rfl (v := .slice Ar k cr) rfl OW.out rfl RB.out (lfC_one _) (k + 1) rfl (by unfold maxLen; omega) (by omega) hbase ?_; intro A8 c8 w6 g1 g2 g3 g4 g5))
        have HO6 := Lib.hid g3
        rw [← lfCs_snoc] at HO6
        have HL6 := Lib.hid ((HLW.out.below (b_alloc (Below.refl _ _) _)).grown OW.out g4)
        have HB6 := Lib.hid (below_app HB5.out OW.out g4 (by have := HB0.out; omega) (by have := HB0.out; omega))
        have HM6 := Lib.hid (show ∀ r ∈ rs ++ [⟨xi, xv, Ax, xm, cx, xp⟩], r.m ≤ 1000 from fun r hr => by
          rcases List.mem_append.1 hr with h | h
          · exact HM.out r h
          · simp at h
            subst h
            exact hxp)
        clear g3 g4 g5 OW RB HLW HB5 hbase HM
        refine ⟨⟨k + 1, A8, c8, _, by omega, by omega, by go_num, rfl, HO6, HL6, HM6, HB6⟩, ?_⟩
        show n1 - ((k : Int) + 1).toNat < n1 - (k : Int).toNat
        omega
      · clear hk
        have q6 : decide ((k : Int) < (n1 : Int)) = true := by simp; omega
        have q7 : decide ((k : Int) < 6) = false := by simp; omega
        have RS := Lib.hid (LfRows.of_own HO.out HL.out)
        have R4w := Lib.hid (rd_step R4.out HB.out)
        go_wp2_with fail
        obtain ⟨E, hE⟩ : ∃ E, wrongE root q rs = E := ⟨_, rfl⟩
        have HE := Lib.hid hE
        refine (newp_err root q k cr Ar rs _ RS.out (by omega) (by omega)).mono ?_
        rw [hE]
        rintro e w7 ⟨x7, rfl, hx7, hb7⟩
        have RS7 := Lib.hid ((RS.out.below hb7 (Nat.le_refl _)).more hb7.size)
        have HB7 := Lib.hid (b_call HB.out hb7)
        have HL7 := Lib.hid (HL.out.below hb7)
        have HO7 := Lib.hid (own_below HO.out hb7)
        have R47 := Lib.hid (rd_step R4w.out hb7)
        clear hE hb7
        go_wp2_with fail
        refine (wrong_any root q k cr Ar rs _ RS7.out (by omega) (by omega)).mono ?_
        rintro e w8 ⟨rfl, hb8⟩
        rw [HE.out]
        have HB8 := Lib.hid (b_call HB7.out hb8)
        have HL8 := Lib.hid (HL7.out.below hb8)
        have HO8 := Lib.hid (own_below HO7.out hb8)
        have R48 := Lib.hid (rd_step R47.out hb8)
        have q8 : (E != E) = false := by simp
        clear HB7 HL7 HO7 R47 hb8
        by_cases hk0 : k = 0
        · have q9 : ((k : Int) == 0) = true := by rw [hk0]; rfl
          clear hk0
          go_wp2_with fail
          refine (lives_any _).mono ?_
          rintro e w9 ⟨rfl, hb9⟩
          have HB9 := Lib.hid (b_call B4.out (b_call HB8.out hb9))
          clear hb9
          go_wp2
          go_ret
          exact ⟨rfl, HB9.out⟩
        · have q9 : ((k : Int) == 0) = false := by simpa using hk0
          have ha := around_bd which (k : Int) (by omega)
          obtain ⟨hw1, hw2⟩ := HW.out
          go_wp2_with fail
          refine (around_any which (k : Int) _ hw1 hw2 (by omega) (by omega)).mono ?_
          rintro e w_ ⟨rfl, rfl⟩
          obtain ⟨kk, hkk⟩ : ∃ y : Nat, around which (k : Int) = (y : Int) := ⟨(around which (k : Int)).toNat, by omega⟩
          rw [hkk] at ha ⊢
          have hkk1 : kk < k := by omega
          clear ha hkk hw1 hw2
          go_upto_if 82 with (fail)
          obtain ⟨g, cur, rfl, hg, VG, ht, hcr2, hcz⟩ := own_open HO8.out (by omega)
          have hrl : rs.length = k := RS7.out.len
          have hkr : kk < rs.length := by omega
          have hcell : ∀ t, t < 3 → w8.cell? ⟨g, kk * 3 + t, none⟩ = (lfC rs[kk])[t]? := fun t h => by
            have h1 := lfCs_get rs kk t hkr h
            rw [← ht, List.getElem?_take_of_lt (by omega), Array.getElem?_toList] at h1
            rw [VG.cell, h1]
          have hown := HL8.out _ (List.getElem_mem hkr)
          have hmx := HM.out _ (List.getElem_mem hkr)
          obtain ⟨⟨ix, iv, Ai, mi, ci, prf⟩, hr⟩ : ∃ r, rs[kk] = r := ⟨_, rfl⟩
          rw [hr] at hcell hown hmx
          simp only at hown hmx
          have y0 : w8.cell? ⟨g, kk * 3, none⟩ = some (.int .i64 ix) := hcell 0 (by omega)
          have y1 : w8.cell? ⟨g, kk * 3 + 1, none⟩ = some (.int .i64 iv) := hcell 1 (by omega)
          have y2 : w8.cell? ⟨g, kk * 3 + 2, none⟩ = some (.slice Ai mi ci) := hcell 2 (by omega)
          have y3 := VG.lt
          have HT := Lib.hid ht
          have HZ := Lib.hid hcz
          have HOW := Lib.hid hown
          have hg4 : b0 ≤ g := hg
          obtain ⟨j1, j2⟩ : (0 : Int) ≤ (kk : Int) ∧ (kk : Int) < (k : Int) := by omega
          clear ht hcz hcell hr hown hrl hkr RS7 RS hx7 q8 HO8
          by_cases hmd : how.tmod 3 = 0
          · have q10 : (how.tmod 3 == 0) = true := by simpa using hmd
            clear hmd
            have R5w := Lib.hid (rd_step R54.out HB8.out)
            go_wp2_with fail
            refine (rprove_any A3 q5 c3 cs5 ix _ R5w.out (by omega)).mono ?_
            obtain ⟨xi, xv, xp, hx⟩ : ∃ a b c, lfOf cs5 ix = (a, b, c) := ⟨_, _, _, rfl⟩
            rw [hx]
            rintro e w9 ⟨Ax, cx, rfl, own9', k3, k4, hb9'⟩
            obtain ⟨xm, hxm⟩ : ∃ m, xp.length = m := ⟨_, rfl⟩
            simp only [hxm] at own9' k3 ⊢
            have own9 := Lib.hid own9'
            have hb9 := Lib.hid hb9'
            have VG9 := Lib.hid (VG.call hb9')
            have HL9 := Lib.hid (HL8.out.below hb9')
            have u0 := cell_keep hb9' y0
            have u1 := cell_keep hb9' y1
            have u2 := cell_keep hb9' y2
            have u3 := VG9.out.frozen
            clear own9' hb9' hx hxm k3 k4 R5w
            go_upto_region 18 with (fail)
            refine name_world ?_
            intro X hX
            have RS10 := Lib.hid (LfRows.put (base := 0) (c := 0) (r := ⟨xi, xv, Ax, xm, cx, xp⟩) VG9.out HT.out (by rw [HZ.out]; omega) hkk1 HL9.out (own_mono own9.out (by have := HB8.out.size; have := HB0.out; omega)) hX)
            have HB10 := Lib.hid (show Below b0 w4 X from by
              rw [hX]
              have h1 : Below b0 w4 w9 := by rw [← HB0.out]; exact b_call HB8.out hb9.out
              exact ((h1.setCell (p := ⟨g, kk * 3, none⟩) hg _).setCell (p := ⟨g, kk * 3 + 1, none⟩) hg _).setCell (p := ⟨g, kk * 3 + 2, none⟩) hg _)
            clear hX y0 y1 y2 y3 u0 u1 u2 u3 VG9 HL9 own9 hb9 VG HT HZ
            obtain ⟨rs', hrs'⟩ : ∃ x, rs.set kk ⟨xi, xv, Ax, xm, cx, xp⟩ = x := ⟨_, rfl⟩
            rw [hrs'] at RS10
            clear hrs'
            go_wp2_with fail
            obtain ⟨E', hE'⟩ : ∃ E, wrongE root q rs' = E := ⟨_, rfl⟩
            have HE' := Lib.hid hE'
            refine (newp_err root q k cr (some ⟨g, 0, none⟩) rs' _ RS10.out (by omega) (by omega)).mono ?_
            rw [hE']
            rintro e w11 ⟨x11, rfl, hx11, hb11⟩
            have RS11 := Lib.hid ((RS10.out.below hb11 (Nat.le_refl _)).more hb11.size)
            have hb0x := HB10.out.size
            have HB11 := Lib.hid (HB10.out.trans (hb11.mono (by have := HB0.out; omega)))
            clear hE' hb11 HB10 RS10
            go_wp2_with fail
            refine (wrong_any root q k cr (some ⟨g, 0, none⟩) rs' _ RS11.out (by omega) (by omega)).mono ?_
            rintro e w12 ⟨rfl, hb12⟩
            rw [HE'.out]
            have hb11x := HB11.out.size
            have HB12 := Lib.hid (HB11.out.trans (hb12.mono (by have := HB0.out; omega)))
            have q12 : (E' == E') = true := by simp
            clear hb12 HB11 RS11
            go_wp2_with fail
            refine (lives_any _).mono ?_
            rintro e w13 ⟨rfl, hb13⟩
            have hb12x := HB12.out.size
            have HB13 := Lib.hid (b_call B4.out (show Below w4.heap.size w4 w13 from by rw [HB0.out]; exact HB12.out.trans (hb13.mono (by have := HB0.out; omega))))
            clear hb13 HB12
            go_wp2
            go_ret
            exact ⟨rfl, HB13.out⟩
          · have q10 : (how.tmod 3 == 0) = false := by simpa using hmd
            have hq3 := tdiv3 HH.out
            have HQ3 := Lib.hid hq3
            have hwq : IntKind.i64.wrap (how.tdiv 3) = how.tdiv 3 := IntWalk.i64_in _ (by unfold I64 at hq3; omega)
            clear hmd
            have RPw := Lib.hid (rd_own HOW.out)
            clear hq3
            go_wp2_with fail
            clear hwq
            obtain ⟨d3, hd3⟩ : ∃ y, how.tdiv 3 = y := ⟨_, rfl⟩
            rw [hd3] at HQ3 ⊢
            clear hd3
            refine (bent_any ix iv Ai mi ci prf d3 by_ _ RPw.out hmx HQ3.out HBy.out).mono ?_
            obtain ⟨⟨xi, xv, xp⟩, hx⟩ : ∃ z, bentOf ix iv prf (around d3 (2 + prf.length)) (1 + around by_ 1000000) = z := ⟨_, rfl⟩
            rw [hx]
            rintro e w9 ⟨Ax, cx, rfl, own9', k3, k4, hb9'⟩
            obtain ⟨xm, hxm⟩ : ∃ m, xp.length = m := ⟨_, rfl⟩
            simp only [hxm] at own9' k3 ⊢
            have own9 := Lib.hid own9'
            have hb9 := Lib.hid hb9'
            have VG9 := Lib.hid (VG.call hb9')
            have HL9 := Lib.hid (HL8.out.below hb9')
            have u0 := cell_keep hb9' y0
            have u1 := cell_keep hb9' y1
            have u2 := cell_keep hb9' y2
            have u3 := VG9.out.frozen
            clear own9' hb9' hx hxm k3 k4 RPw
            go_upto_region 18 with (fail)
            refine name_world ?_
            intro X hX
            have RS10 := Lib.hid (LfRows.put (base := 0) (c := 0) (r := ⟨xi, xv, Ax, xm, cx, xp⟩) VG9.out HT.out (by rw [HZ.out]; omega) hkk1 HL9.out (own_mono own9.out (by have := HB8.out.size; have := HB0.out; omega)) hX)
            have HB10 := Lib.hid (show Below b0 w4 X from by
              rw [hX]
              have h1 : Below b0 w4 w9 := by rw [← HB0.out]; exact b_call HB8.out hb9.out
              exact ((h1.setCell (p := ⟨g, kk * 3, none⟩) hg _).setCell (p := ⟨g, kk * 3 + 1, none⟩) hg _).setCell (p := ⟨g, kk * 3 + 2, none⟩) hg _)
            clear hX y0 y1 y2 y3 u0 u1 u2 u3 VG9 HL9 own9 hb9 VG HT HZ
            obtain ⟨rs', hrs'⟩ : ∃ x, rs.set kk ⟨xi, xv, Ax, xm, cx, xp⟩ = x := ⟨_, rfl⟩
            rw [hrs'] at RS10
            clear hrs'
            go_wp2_with fail
            obtain ⟨E', hE'⟩ : ∃ E, wrongE root q rs' = E := ⟨_, rfl⟩
            have HE' := Lib.hid hE'
            refine (newp_err root q k cr (some ⟨g, 0, none⟩) rs' _ RS10.out (by omega) (by omega)).mono ?_
            rw [hE']
            rintro e w11 ⟨x11, rfl, hx11, hb11⟩
            have RS11 := Lib.hid ((RS10.out.below hb11 (Nat.le_refl _)).more hb11.size)
            have hb0x := HB10.out.size
            have HB11 := Lib.hid (HB10.out.trans (hb11.mono (by have := HB0.out; omega)))
            clear hE' hb11 HB10 RS10
            go_wp2_with fail
            refine (wrong_any root q k cr (some ⟨g, 0, none⟩) rs' _ RS11.out (by omega) (by omega)).mono ?_
            rintro e w12 ⟨rfl, hb12⟩
            rw [HE'.out]
            have hb11x := HB11.out.size
            have HB12 := Lib.hid (HB11.out.trans (hb12.mono (by have := HB0.out; omega)))
            have q12 : (E' == E') = true := by simp
            clear hb12 HB11 RS11
            go_wp2_with fail
            refine (lives_any _).mono ?_
            rintro e w13 ⟨rfl, hb13⟩
            have hb12x := HB12.out.size
            have HB13 := Lib.hid (b_call B4.out (show Below w4.heap.size w4 w13 from by rw [HB0.out]; exact HB12.out.trans (hb13.mono (by have := HB0.out; omega))))
            clear hb13 HB12
            go_wp2
            go_ret
            exact ⟨rfl, HB13.out⟩
    · clear hk
      have q6 : decide ((k : Int) < (n1 : Int)) = false := by simp; omega
      have RS := Lib.hid (LfRows.of_own HO.out HL.out)
      have R4w := Lib.hid (rd_step R4.out HB.out)
      go_wp2_with fail
      obtain ⟨E, hE⟩ : ∃ E, wrongE root q rs = E := ⟨_, rfl⟩
      have HE := Lib.hid hE
      refine (newp_err root q k cr Ar rs _ RS.out (by omega) (by omega)).mono ?_
      rw [hE]
      rintro e w7 ⟨x7, rfl, hx7, hb7⟩
      have RS7 := Lib.hid ((RS.out.below hb7 (Nat.le_refl _)).more hb7.size)
      have HB7 := Lib.hid (b_call HB.out hb7)
      have HL7 := Lib.hid (HL.out.below hb7)
      have HO7 := Lib.hid (own_below HO.out hb7)
      have R47 := Lib.hid (rd_step R4w.out hb7)
      clear hE hb7
      go_wp2_with fail
      refine (wrong_any root q k cr Ar rs _ RS7.out (by omega) (by omega)).mono ?_
      rintro e w8 ⟨rfl, hb8⟩
      rw [HE.out]
      have HB8 := Lib.hid (b_call HB7.out hb8)
      have HL8 := Lib.hid (HL7.out.below hb8)
      have HO8 := Lib.hid (own_below HO7.out hb8)
      have R48 := Lib.hid (rd_step R47.out hb8)
      have q8 : (E != E) = false := by simp
      clear HB7 HL7 HO7 R47 hb8
      by_cases hk0 : k = 0
      · have q9 : ((k : Int) == 0) = true := by rw [hk0]; rfl
        clear hk0
        go_wp2_with fail
        refine (lives_any _).mono ?_
        rintro e w9 ⟨rfl, hb9⟩
        have HB9 := Lib.hid (b_call B4.out (b_call HB8.out hb9))
        clear hb9
        go_wp2
        go_ret
        exact ⟨rfl, HB9.out⟩
      · have q9 : ((k : Int) == 0) = false := by simpa using hk0
        have ha := around_bd which (k : Int) (by omega)
        obtain ⟨hw1, hw2⟩ := HW.out
        go_wp2_with fail
        refine (around_any which (k : Int) _ hw1 hw2 (by omega) (by omega)).mono ?_
        rintro e w_ ⟨rfl, rfl⟩
        obtain ⟨kk, hkk⟩ : ∃ y : Nat, around which (k : Int) = (y : Int) := ⟨(around which (k : Int)).toNat, by omega⟩
        rw [hkk] at ha ⊢
        have hkk1 : kk < k := by omega
        clear ha hkk hw1 hw2
        go_upto_if 82 with (fail)
        obtain ⟨g, cur, rfl, hg, VG, ht, hcr2, hcz⟩ := own_open HO8.out (by omega)
        have hrl : rs.length = k := RS7.out.len
        have hkr : kk < rs.length := by omega
        have hcell : ∀ t, t < 3 → w8.cell? ⟨g, kk * 3 + t, none⟩ = (lfC rs[kk])[t]? := fun t h => by
          have h1 := lfCs_get rs kk t hkr h
          rw [← ht, List.getElem?_take_of_lt (by omega), Array.getElem?_toList] at h1
          rw [VG.cell, h1]
        have hown := HL8.out _ (List.getElem_mem hkr)
        have hmx := HM.out _ (List.getElem_mem hkr)
        obtain ⟨⟨ix, iv, Ai, mi, ci, prf⟩, hr⟩ : ∃ r, rs[kk] = r := ⟨_, rfl⟩
        rw [hr] at hcell hown hmx
        simp only at hown hmx
        have y0 : w8.cell? ⟨g, kk * 3, none⟩ = some (.int .i64 ix) := hcell 0 (by omega)
        have y1 : w8.cell? ⟨g, kk * 3 + 1, none⟩ = some (.int .i64 iv) := hcell 1 (by omega)
        have y2 : w8.cell? ⟨g, kk * 3 + 2, none⟩ = some (.slice Ai mi ci) := hcell 2 (by omega)
        have y3 := VG.lt
        have HT := Lib.hid ht
        have HZ := Lib.hid hcz
        have HOW := Lib.hid hown
        have hg4 : b0 ≤ g := hg
        obtain ⟨j1, j2⟩ : (0 : Int) ≤ (kk : Int) ∧ (kk : Int) < (k : Int) := by omega
        clear ht hcz hcell hr hown hrl hkr RS7 RS hx7 q8 HO8
        by_cases hmd : how.tmod 3 = 0
        · have q10 : (how.tmod 3 == 0) = true := by simpa using hmd
          clear hmd
          have R5w := Lib.hid (rd_step R54.out HB8.out)
          go_wp2_with fail
          refine (rprove_any A3 q5 c3 cs5 ix _ R5w.out (by omega)).mono ?_
          obtain ⟨xi, xv, xp, hx⟩ : ∃ a b c, lfOf cs5 ix = (a, b, c) := ⟨_, _, _, rfl⟩
          rw [hx]
          rintro e w9 ⟨Ax, cx, rfl, own9', k3, k4, hb9'⟩
          obtain ⟨xm, hxm⟩ : ∃ m, xp.length = m := ⟨_, rfl⟩
          simp only [hxm] at own9' k3 ⊢
          have own9 := Lib.hid own9'
          have hb9 := Lib.hid hb9'
          have VG9 := Lib.hid (VG.call hb9')
          have HL9 := Lib.hid (HL8.out.below hb9')
          have u0 := cell_keep hb9' y0
          have u1 := cell_keep hb9' y1
          have u2 := cell_keep hb9' y2
          have u3 := VG9.out.frozen
          clear own9' hb9' hx hxm k3 k4 R5w
          go_upto_region 18 with (fail)
          refine name_world ?_
          intro X hX
          have RS10 := Lib.hid (LfRows.put (base := 0) (c := 0) (r := ⟨xi, xv, Ax, xm, cx, xp⟩) VG9.out HT.out (by rw [HZ.out]; omega) hkk1 HL9.out (own_mono own9.out (by have := HB8.out.size; have := HB0.out; omega)) hX)
          have HB10 := Lib.hid (show Below b0 w4 X from by
            rw [hX]
            have h1 : Below b0 w4 w9 := by rw [← HB0.out]; exact b_call HB8.out hb9.out
            exact ((h1.setCell (p := ⟨g, kk * 3, none⟩) hg _).setCell (p := ⟨g, kk * 3 + 1, none⟩) hg _).setCell (p := ⟨g, kk * 3 + 2, none⟩) hg _)
          clear hX y0 y1 y2 y3 u0 u1 u2 u3 VG9 HL9 own9 hb9 VG HT HZ
          obtain ⟨rs', hrs'⟩ : ∃ x, rs.set kk ⟨xi, xv, Ax, xm, cx, xp⟩ = x := ⟨_, rfl⟩
          rw [hrs'] at RS10
          clear hrs'
          go_wp2_with fail
          obtain ⟨E', hE'⟩ : ∃ E, wrongE root q rs' = E := ⟨_, rfl⟩
          have HE' := Lib.hid hE'
          refine (newp_err root q k cr (some ⟨g, 0, none⟩) rs' _ RS10.out (by omega) (by omega)).mono ?_
          rw [hE']
          rintro e w11 ⟨x11, rfl, hx11, hb11⟩
          have RS11 := Lib.hid ((RS10.out.below hb11 (Nat.le_refl _)).more hb11.size)
          have hb0x := HB10.out.size
          have HB11 := Lib.hid (HB10.out.trans (hb11.mono (by have := HB0.out; omega)))
          clear hE' hb11 HB10 RS10
          go_wp2_with fail
          refine (wrong_any root q k cr (some ⟨g, 0, none⟩) rs' _ RS11.out (by omega) (by omega)).mono ?_
          rintro e w12 ⟨rfl, hb12⟩
          rw [HE'.out]
          have hb11x := HB11.out.size
          have HB12 := Lib.hid (HB11.out.trans (hb12.mono (by have := HB0.out; omega)))
          have q12 : (E' == E') = true := by simp
          clear hb12 HB11 RS11
          go_wp2_with fail
          refine (lives_any _).mono ?_
          rintro e w13 ⟨rfl, hb13⟩
          have hb12x := HB12.out.size
          have HB13 := Lib.hid (b_call B4.out (show Below w4.heap.size w4 w13 from by rw [HB0.out]; exact HB12.out.trans (hb13.mono (by have := HB0.out; omega))))
          clear hb13 HB12
          go_wp2
          go_ret
          exact ⟨rfl, HB13.out⟩
        · have q10 : (how.tmod 3 == 0) = false := by simpa using hmd
          have hq3 := tdiv3 HH.out
          have HQ3 := Lib.hid hq3
          have hwq : IntKind.i64.wrap (how.tdiv 3) = how.tdiv 3 := IntWalk.i64_in _ (by unfold I64 at hq3; omega)
          clear hmd
          have RPw := Lib.hid (rd_own HOW.out)
          clear hq3
          go_wp2_with fail
          clear hwq
          obtain ⟨d3, hd3⟩ : ∃ y, how.tdiv 3 = y := ⟨_, rfl⟩
          rw [hd3] at HQ3 ⊢
          clear hd3
          refine (bent_any ix iv Ai mi ci prf d3 by_ _ RPw.out hmx HQ3.out HBy.out).mono ?_
          obtain ⟨⟨xi, xv, xp⟩, hx⟩ : ∃ z, bentOf ix iv prf (around d3 (2 + prf.length)) (1 + around by_ 1000000) = z := ⟨_, rfl⟩
          rw [hx]
          rintro e w9 ⟨Ax, cx, rfl, own9', k3, k4, hb9'⟩
          obtain ⟨xm, hxm⟩ : ∃ m, xp.length = m := ⟨_, rfl⟩
          simp only [hxm] at own9' k3 ⊢
          have own9 := Lib.hid own9'
          have hb9 := Lib.hid hb9'
          have VG9 := Lib.hid (VG.call hb9')
          have HL9 := Lib.hid (HL8.out.below hb9')
          have u0 := cell_keep hb9' y0
          have u1 := cell_keep hb9' y1
          have u2 := cell_keep hb9' y2
          have u3 := VG9.out.frozen
          clear own9' hb9' hx hxm k3 k4 RPw
          go_upto_region 18 with (fail)
          refine name_world ?_
          intro X hX
          have RS10 := Lib.hid (LfRows.put (base := 0) (c := 0) (r := ⟨xi, xv, Ax, xm, cx, xp⟩) VG9.out HT.out (by rw [HZ.out]; omega) hkk1 HL9.out (own_mono own9.out (by have := HB8.out.size; have := HB0.out; omega)) hX)
          have HB10 := Lib.hid (show Below b0 w4 X from by
            rw [hX]
            have h1 : Below b0 w4 w9 := by rw [← HB0.out]; exact b_call HB8.out hb9.out
            exact ((h1.setCell (p := ⟨g, kk * 3, none⟩) hg _).setCell (p := ⟨g, kk * 3 + 1, none⟩) hg _).setCell (p := ⟨g, kk * 3 + 2, none⟩) hg _)
          clear hX y0 y1 y2 y3 u0 u1 u2 u3 VG9 HL9 own9 hb9 VG HT HZ
          obtain ⟨rs', hrs'⟩ : ∃ x, rs.set kk ⟨xi, xv, Ax, xm, cx, xp⟩ = x := ⟨_, rfl⟩
          rw [hrs'] at RS10
          clear hrs'
          go_wp2_with fail
          obtain ⟨E', hE'⟩ : ∃ E, wrongE root q rs' = E := ⟨_, rfl⟩
          have HE' := Lib.hid hE'
          refine (newp_err root q k cr (some ⟨g, 0, none⟩) rs' _ RS10.out (by omega) (by omega)).mono ?_
          rw [hE']
          rintro e w11 ⟨x11, rfl, hx11, hb11⟩
          have RS11 := Lib.hid ((RS10.out.below hb11 (Nat.le_refl _)).more hb11.size)
          have hb0x := HB10.out.size
          have HB11 := Lib.hid (HB10.out.trans (hb11.mono (by have := HB0.out; omega)))
          clear hE' hb11 HB10 RS10
          go_wp2_with fail
          refine (wrong_any root q k cr (some ⟨g, 0, none⟩) rs' _ RS11.out (by omega) (by omega)).mono ?_
          rintro e w12 ⟨rfl, hb12⟩
          rw [HE'.out]
          have hb11x := HB11.out.size
          have HB12 := Lib.hid (HB11.out.trans (hb12.mono (by have := HB0.out; omega)))
          have q12 : (E' == E') = true := by simp
          clear hb12 HB11 RS11
          go_wp2_with fail
          refine (lives_any _).mono ?_
          rintro e w13 ⟨rfl, hb13⟩
          have hb12x := HB12.out.size
          have HB13 := Lib.hid (b_call B4.out (show Below w4.heap.size w4 w13 from by rw [HB0.out]; exact HB12.out.trans (hb13.mono (by have := HB0.out; omega))))
          clear hb13 HB12
          go_wp2
          go_ret
          exact ⟨rfl, HB13.out⟩
end Go.Proofs.Ytgelhcgaacnjcaa
