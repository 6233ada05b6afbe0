/-
  WHAT IS PROVED HERE: the walk of the law CommitrevealPlays: it returns true at every input and leaves old memory as it was.
-/
import Derived.Test.YtojmkfhinkmhaaaCrX
namespace Go.Proofs.Ytojmkfhinkmhaaa
set_option linter.unusedVariables false
open Go.ChangeShapes Go.WideShapes Go.ChangeAt Go.RowKit

set_option maxRecDepth 100000 in
set_option maxHeartbeats 4000000 in
theorem plays_walk (pls : Int) (A1 : Option Addr) (n1 c1 : Nat) (l1 : List Int) (A2 : Option Addr) (n2 c2 : Nat) (l2 : List Int) (cc ra rb rc nc : Int) (w : World) (hp : -9223372036854775808 ≤ pls ∧ pls ≤ 9223372036854775807) (rd1 : Rd w w.heap.size 1 A1 n1 (l1.map (Value.int .i64))) (wf1 : ∀ x ∈ l1, -9223372036854775808 ≤ x ∧ x ≤ 9223372036854775807) (hn1 : n1 ≤ 9223372036854775807)
    (rd2 : Rd w w.heap.size 1 A2 n2 (l2.map (Value.int .i64))) (wf2 : ∀ x ∈ l2, -9223372036854775808 ≤ x ∧ x ≤ 9223372036854775807) (hn2 : n2 ≤ 9223372036854775807) (hnc : 0 ≤ nc ∧ nc ≤ 18446744073709551615) :
    Calls Try.prog 8 #[.int .i64 pls, .slice A1 n1 c1, .slice A2 n2 c2, .int .u64 cc, .agg #[.int .i64 ra, .int .i64 rb, .int .i64 rc], .int .u64 nc] w fun e w' => e = .returned (.bool true) ∧ Below w.heap.size w w' := by
  have R1 := Lib.hid rd1
  have R2 := Lib.hid rd2
  have W1 := Lib.hid wf1
  have W2 := Lib.hid wf2
  have HNC := Lib.hid hnc
  obtain ⟨p1, p2⟩ := hp
  have hab := around_bd pls 5 (by omega)
  obtain ⟨k0, hk0, hk5⟩ : ∃ q : Nat, around pls 5 = q ∧ q < 5 := ⟨(around pls 5).toNat, by omega, by omega⟩
  have HT := Lib.hid hk0
  clear rd1 rd2 wf1 wf2 hnc hab hk0
  go_enter Try.func8, Try.ntmps8
  go_wp2_with fail
  refine (around_any pls 5 _ p1 p2 (by omega) (by omega)).mono ?_
  rintro e w_ ⟨rfl, rfl⟩
  rw [HT.out]
  clear p1 p2 HT
  have hk1 : (1 : Int) + (k0 : Int) = ((k0 + 1 : Nat) : Int) := by omega
  obtain ⟨k, hk, hk8, hkp⟩ : ∃ k, k0 + 1 = k ∧ k ≤ 5 ∧ 1 ≤ k := ⟨_, rfl, by omega, by omega⟩
  rw [hk] at hk1
  have HK1 := Lib.hid hk1
  clear hk1
  go_upto_region 2 with (fail)
  rw [HK1.out]
  clear HK1 hk hk5
  go_wp2_with fail
  refine (crnew_q k 30 _ (by omega)).mono ?_
  rintro e w3 ⟨g, rfl, hg, hC3, hb3⟩
  have X3 := Lib.hid (Cx.mk (w0 := w) hC3 (by simp at hg; omega) (b_call (b_alloc (Below.refl _ _) _) hb3))
  have V10 := Lib.hid ((Vr.new w 25 #[.int .i64 ra, .int .i64 rb, .int .i64 rc]).call hb3)
  have hg10 : ¬ w.heap.size = g := by simp at hg; omega
  have hl10 := V10.out.lt
  obtain ⟨b10, hb10⟩ : ∃ b, w.heap.size = b := ⟨_, rfl⟩
  rw [hb10] at V10 hg10 hl10 ⊢
  have HB10 := Lib.hid hb10
  clear hC3 hb3 hg hb10
  go_wp2_with fail
  refine (refnew_any k 30 _ (by omega)).mono ?_
  rintro e w4 ⟨A4, c4, rfl, rd4, hb4, hn4⟩
  go_upto_region 4 with (fail)
  refine name_world ?_
  intro X hX
  have HX4 : Below w3.heap.size w3 X := by rw [hX]; (repeat (first | (with_reducible exact Below.refl _ _) | (with_reducible assumption) | (with_reducible refine b_drew ?_) | (with_reducible refine b_drewN ?_ _) | (with_reducible refine b_alloc ?_ _) | ((with_reducible refine b_set ?_ ?_ _); rotate_left; (focus (first | omega | (simp; done) | (simp; omega) | (simp at *; omega)))) | (with_reducible refine b_call ?_ (by with_reducible assumption))))
  have hg3 := X3.out.cr.facts.2.2.2.1
  obtain ⟨bx, hbx⟩ : ∃ b, w4.heap.size = b := ⟨_, rfl⟩
  have hbxg : ¬ bx = g := by have := hb4.size; omega
  have HF := Lib.hid (show Rfx X bx g (newR k 30) A4 c4 from by
    rw [hX, ← hbx]
    refine ⟨Vr.new w4 _ _, rd_step rd4 (b_alloc (Below.refl _ _) _), fun a e => ⟨?_, ?_⟩⟩
    · obtain ⟨b, o, e', hb, _⟩ := refr_len rd4 (q := 0) (show 0 < k by omega)
      rw [e'] at e
      injection e with e
      subst e
      show b ≠ _
      omega
    · have := hn4 a e
      omega)
  rw [hbx]
  have XX := Lib.hid (X3.out.call HX4)
  have hbl := HF.out.cells.2.2.2.1
  have hgl := XX.out.cr.facts.2.2.2.1
  have V10 := Lib.hid (V10.out.call HX4)
  have hx10 : ¬ b10 = bx := by have := hb4.size; omega
  have hxb : w.heap.size ≤ bx := by have := hb4.size; have := X3.out.hb.size; omega
  have HO0 := Lib.hid (okR_new k 30)
  have hgX := HF.out.n
  clear hX hn4 rd4 hb4 hbx X3 HX4 hgX hg3 hl10
  go_wp2_with fail
  refine (inputs_any A2 n2 c2 l2 4 4 _ rfl W2.out (rd_step R2.out XX.out.hb) hn2 (by omega)).mono ?_
  rintro e w5 ⟨A5, c5, rfl, _, _, hown5, hb5⟩
  have K5 := Lib.hid hown5
  obtain ⟨known, hkn⟩ : ∃ x, (l2.map inpOf).take 4 = x := ⟨_, rfl⟩
  obtain ⟨mk, hmk⟩ : ∃ x, min n2 4 = x := ⟨_, rfl⟩
  have hmk4 : mk ≤ 4 := by omega
  rw [hkn, hmk] at K5
  rw [hmk]
  have hz5 := hb5.size
  clear hown5 hkn hmk R2 W2
  go_wp2_with fail
  refine (acts_any A1 n1 c1 l1 _ (rd_step R1.out (b_call XX.out.hb hb5)) W1.out hn1).mono ?_
  rintro e w6 ⟨L, A6, c6, rfl, hL24, hG, hown6, hb6⟩
  have HG := Lib.hid (actsEnd_good hG)
  have O6 := Lib.hid (World.ownsRow.mono hown6 hz5)
  have K6 := Lib.hid (own_below K5.out hb6)
  have HB6 : Below X.heap.size X w6 := b_call hb5 hb6
  have hz6 := HB6.size
  clear hG hown6 hb6 hb5 R1 W1 K5
  go_wp2_with (at_builtin; refine wpList_app _ rfl (.tmp 47) (.tmp 49) slActs rfl rfl (own_below O6.out (by (repeat (first | (with_reducible exact Below.refl _ _) | (with_reducible assumption) | (with_reducible refine b_drew ?_) | (with_reducible refine b_drewN ?_ _) | (with_reducible refine b_alloc ?_ _) | ((with_reducible refine b_set ?_ ?_ _); rotate_left; (focus (first | omega | (simp; done) | (simp; omega) | (simp at *; omega)))) | (with_reducible refine b_call ?_ (by with_reducible assumption)))))) rfl (rd_lit _ _ _ rfl rfl) (actC_cell ⟨2, 0, (0, 0, 0), 0⟩) (L.length + 1) rfl (by unfold maxLen; omega) (by omega) (by simp; omega) ?_; intro A7 c7 w7 g1 g2 g3 g4 g5)
  have hA := own_apart (own_below K6.out (b_alloc (Below.refl w6.heap.size w6) (.cells #[.int .i64 2, .int .i64 0, .int .i64 0, .int .i64 0, .int .i64 0, .int .u64 0] 49))) (own_below O6.out (b_alloc (Below.refl w6.heap.size w6) _)) (by decide)
  have K7 := Lib.hid ((own_below K6.out (b_alloc (Below.refl w6.heap.size w6) _)).kept g4 hA)
  have HLn : (actsEnd L).length = L.length + 1 := by simp [actsEnd]
  have HL := Lib.hid HLn
  have O7 := Lib.hid (show w7.ownsRow X.heap.size 49 6 (.slice A7 (L.length + 1) c7) (L.length + 1) (actsC (actsEnd L)) from by unfold actsEnd; rw [actsC_snoc]; exact g3)
  have HB7 : Below X.heap.size X w7 := below_app (b_alloc HB6 _) (own_below O6.out (b_alloc (Below.refl _ _) _)) g4 (Nat.le_refl _) (by simp; omega)
  have XX := Lib.hid (XX.out.call HB7)
  have V10 := Lib.hid (V10.out.call HB7)
  have HF := Lib.hid (HF.out.call HB7)
  obtain ⟨BX, hBX⟩ : ∃ b, X.heap.size = b := ⟨_, rfl⟩
  rw [hBX] at K7 O7 hbl hgl
  obtain ⟨La, hLa⟩ : ∃ x, actsEnd L = x := ⟨_, rfl⟩
  rw [hLa] at O7 HG HL
  obtain ⟨m, hm⟩ : ∃ x, L.length + 1 = x := ⟨_, rfl⟩
  have hm25 : m ≤ 25 ∧ 1 ≤ m := by omega
  rw [hm] at O7 HL ⊢
  have HLast := Lib.hid (show ∀ i (h : i < La.length), i + 1 = La.length → La[i] = ⟨2, 0, (0, 0, 0), 0⟩ from by rw [← hLa]; exact fun i h hi => actsEnd_last h hi)
  clear g1 g2 g3 g4 g5 hA HB6 HB7 O6 K6 hBX hLa hm HLn hz5 hz6
  go_wp2
  have HPY := Lib.hid (show Py w w7 g bx b10 BX ra rb rc A7 m c7 La A5 mk c5 known (newR k 30) (newR k 30) A4 c4 from ⟨XX.out, HF.out, V10.out, O7.out, K7.out, hbxg, hg10, hx10, hbl, hgl, hxb⟩)
  clear XX HF V10 O7 K7 hbxg hg10 hx10 hbl hgl
  go_loopw [18] (fun s18 wr => ∃ (i : Nat) (r : RdV) (A : Option Addr) (c : Nat), i ≤ m ∧ s18 = .int .i64 i ∧ Hid (Py w wr g bx b10 BX ra rb rc A7 m c7 La A5 mk c5 known r r A c) ∧ Hid (OkR r) ∧ Hid (r.k = k ∧ r.t = 30 ∧ (i = m → r.o = true))) (fun s18 _ => m - (intOf s18).toNat)
  case atStart => exact ⟨0, _, A4, c4, by omega, rfl, HPY, HO0, Lib.hid ⟨rfl, rfl, fun h => by omega⟩⟩
  case round =>
    obtain ⟨i, r, A, c, hi, rfl, HP, HR, HK⟩ := hrel
    by_cases hlt : i < m
    · obtain ⟨b0, o0, hl, rfl, hb0, y0, y1, y2, y3, y4, y5⟩ := (rd_own HP.out.o).openAct hlt
      have hGa := HG.out _ (List.getElem_mem hl)
      have HLA := Lib.hid (HLast.out i hl)
      obtain ⟨⟨d, pp, ⟨xa, xb, xc⟩, nn⟩, hx⟩ : ∃ x, La[i] = x := ⟨_, rfl⟩
      rw [hx] at y0 y1 y2 y3 y4 y5 hGa HLA
      simp only at y0 y1 y2 y3 y4 y5
      have GA := Lib.hid hGa
      clear hx hGa
      obtain ⟨E, hE⟩ : ∃ E, dsE r 30 ⟨d, pp, (xa, xb, xc), nn⟩ = E := ⟨_, rfl⟩
      obtain ⟨r', hr⟩ : ∃ E, dsR r 30 ⟨d, pp, (xa, xb, xc), nn⟩ = E := ⟨_, rfl⟩
      have HE := Lib.hid hE
      have HR' := Lib.hid hr
      have HOK := Lib.hid (show OkR r' from by rw [← hr]; exact okR_ds HR.out 30 GA.out)
      have HK' := Lib.hid (show r'.k = k ∧ r'.t = 30 ∧ (i + 1 = m → r'.o = true) from ⟨by rw [← hr, dsR_k]; exact HK.out.1, by rw [← hr, dsR_t]; exact HK.out.2.1, fun h => by rw [← hr, HLA.out (by rw [HL.out]; exact h), dsR_2]; rfl⟩)
      clear hE hr
      go_upto_region 13 with (fail)
      refine name_world ?_
      intro Y hY
      obtain ⟨ba, hba⟩ : ∃ b, wr.heap.size = b := ⟨_, rfl⟩
      have V19 := Lib.hid (show Vr Y ba 49 #[.int .i64 d, .int .i64 pp, .int .i64 xa, .int .i64 xb, .int .i64 xc, .int .u64 nn] from by rw [hY, ← hba]; exact Vr.new wr _ _)
      have HPY := Lib.hid (HP.out.call (show Below wr.heap.size wr Y from by rw [hY]; (repeat (first | (with_reducible exact Below.refl _ _) | (with_reducible assumption) | (with_reducible refine b_drew ?_) | (with_reducible refine b_drewN ?_ _) | (with_reducible refine b_alloc ?_ _) | ((with_reducible refine b_set ?_ ?_ _); rotate_left; (focus (first | omega | (simp; done) | (simp; omega) | (simp at *; omega)))) | (with_reducible refine b_call ?_ (by with_reducible assumption))))))
      have hba1 : ¬ ba = g := by have := HP.out.x.cr.facts.2.2.2.1; omega
      have hba2 : ¬ ba = bx := by have := HP.out.f.cells.2.2.2.1; omega
      rw [hba]
      clear hY hba y0 y1 y2 y3 y4 y5 HP hb0
      have y0 : Y.cell? ⟨ba, 0, none⟩ = some (.int .i64 d) := V19.out.cell 0
      have y1 : Y.cell? ⟨ba, 1, none⟩ = some (.int .i64 pp) := V19.out.cell 1
      have y2 : Y.cell? ⟨ba, 2, none⟩ = some (.int .i64 xa) := V19.out.cell 2
      have y3 : Y.cell? ⟨ba, 3, none⟩ = some (.int .i64 xb) := V19.out.cell 3
      have y4 : Y.cell? ⟨ba, 4, none⟩ = some (.int .i64 xc) := V19.out.cell 4
      have y5 : Y.cell? ⟨ba, 5, none⟩ = some (.int .u64 nn) := V19.out.cell 5
      obtain ⟨x0, x1, x2, hxl, hxf⟩ := HPY.out.f.cells
      go_upto_if 63 with fail
      go_cut [20] from 64 to 102 (fun s20 wx => ∃ (A' : Option Addr) (c' : Nat), s20 = .int .i64 E ∧ Hid (Py w wx g bx b10 BX ra rb rc (some ⟨b0, o0, none⟩) m c7 La A5 mk c5 known r r' A' c') ∧ Hid (Vr wx ba 49 #[.int .i64 d, .int .i64 pp, .int .i64 xa, .int .i64 xb, .int .i64 xc, .int .u64 nn]))
      case first =>
        have hd3 := GA.out.hd
        simp only at hd3
        rcases hd3 with rfl | rfl | rfl
        · have HE1 := Lib.hid (show cmE r pp = E from by rw [← HE.out, dsE_0])
          obtain ⟨C, hC⟩ : ∃ x, cmtI pp 30 (okI (xa, xb, xc)) nn = x := ⟨_, rfl⟩
          have HR1 := Lib.hid (show cmS r pp C = r' from by rw [← HR'.out, dsR_0, ← hC])
          have HV := Lib.hid (okI_val (xa, xb, xc))
          obtain ⟨⟨a', b', d'⟩, hx⟩ : ∃ x, okI (xa, xb, xc) = x := ⟨_, rfl⟩
          rw [hx] at HV hC
          have HX := Lib.hid hx
          have HCC := Lib.hid hC
          have HNN := Lib.hid (show 0 ≤ nn ∧ nn ≤ 18446744073709551615 from ⟨GA.out.hn.1, by have := GA.out.hn.2; simp only at this; omega⟩)
          clear hx hC
          go_wp2_with fail
          refine (refvalidate3 xa xb xc _).mono ?_
          rintro e w8 ⟨rfl, hb8⟩
          obtain ⟨bi, hbi⟩ : ∃ b, Y.heap.size = b := ⟨_, rfl⟩
          have V21 := Lib.hid ((Vr.new Y 25 #[.int .i64 xa, .int .i64 xb, .int .i64 xc]).call hb8)
          have HY8 : Below Y.heap.size Y w8 := by (repeat (first | (with_reducible exact Below.refl _ _) | (with_reducible assumption) | (with_reducible refine b_drew ?_) | (with_reducible refine b_drewN ?_ _) | (with_reducible refine b_alloc ?_ _) | ((with_reducible refine b_set ?_ ?_ _); rotate_left; (focus (first | omega | (simp; done) | (simp; omega) | (simp at *; omega)))) | (with_reducible refine b_call ?_ (by with_reducible assumption))))
          have P8 := Lib.hid (HPY.out.call HY8)
          have hbaY := V19.out.lt
          have V19 := Lib.hid (V19.out.call HY8)
          have HYP := Lib.hid HPY.out
          have H8 := Lib.hid (show Below Y.heap.size Y w8 ∧ Y.heap.size ≤ bi from ⟨HY8, by omega⟩)
          have hbi1 : ¬ bi = g := by have := HPY.out.x.cr.facts.2.2.2.1; omega
          have hbi2 : ¬ bi = bx := by have := HPY.out.f.cells.2.2.2.1; omega
          have hbi3 : ¬ ba = bi := by omega
          rw [hbi] at V21 ⊢
          clear hb8 HY8 hbi y0 y1 y2 y3 y4 y5 x0 x1 x2 hxl hxf HPY
          go_upto_if 68 with fail
          go_cut [] from 69 to 70 (fun wx => Hid (Py w wx g bx b10 BX ra rb rc (some ⟨b0, o0, none⟩) m c7 La A5 mk c5 known r r A c) ∧ Hid (Vr wx ba 49 #[.int .i64 0, .int .i64 pp, .int .i64 xa, .int .i64 xb, .int .i64 xc, .int .u64 nn]) ∧ Hid (Vr wx bi 25 #[.int .i64 a', .int .i64 b', .int .i64 d']))
          case first =>
            obtain ⟨v1, v2, v3⟩ := V21.out.facts
            by_cases hv : Val (xa, xb, xc)
            · have q := vcode_yes hv
              have E1 := Lib.hid (show (xa, xb, xc) = (a', b', d') from by rw [← HX.out]; unfold okI; rw [if_pos hv])
              clear hv
              go_wp2
              go_meet
              case rel => exact ⟨P8, V19, Lib.hid (by have e := E1.out; injection e with e1 e2; injection e2 with e2 e3; subst e1 e2 e3; exact V21.out)⟩
            · have q := vcode_no hv
              have E1 := Lib.hid (show (0, 0, 0) = (a', b', d') from by rw [← HX.out]; unfold okI; rw [if_neg hv])
              clear hv
              go_wp2
              go_meet
              case rel => exact ⟨Lib.hid (HYP.out.call (b_set (b_set (b_set H8.out.1 H8.out.2 _) H8.out.2 _) H8.out.2 _)), Lib.hid (((V19.out.far (p := ⟨bi, 0, none⟩) hbi3 _).far (p := ⟨bi, 1, none⟩) hbi3 _).far (p := ⟨bi, 2, none⟩) hbi3 _), Lib.hid (by have e := E1.out; injection e with e1 e2; injection e2 with e2 e3; subst e1 e2 e3; simpa using ((V21.out.set 0 (.int .i64 0)).set 1 (.int .i64 0)).set 2 (.int .i64 0))⟩
          case' rest =>
            clear P8 V19 V21 HYP H8
          obtain ⟨HPX, V19, V21⟩ := hcut
          obtain ⟨X, rfl⟩ : ∃ W : World, W = wc := ⟨_, rfl⟩
          have HK8 := Lib.hid (show r.k ≤ 8 from by rw [HK.out.1]; omega)
          have HK1 := Lib.hid (show 0 < r'.k from by rw [HK'.out.1]; omega)
          have HAL := Lib.hid (show ∀ a, A = some a → a.block < X.heap.size from by
            intro a e
            obtain ⟨b, o, e', hb, _⟩ := refr_len HPX.out.f.R (q := 0) (by rw [HK.out.1]; omega)
            rw [e'] at e
            injection e with e
            subst e
            exact hb)
          obtain ⟨x0, x1, x2, hxl, hxf⟩ := HPX.out.f.cells
          have y1 : X.cell? ⟨ba, 1, none⟩ = some (.int .i64 pp) := V19.out.cell 1
          have y5 : X.cell? ⟨ba, 5, none⟩ = some (.int .u64 nn) := V19.out.cell 5
          have u0 : X.cell? ⟨bi, 0, none⟩ = some (.int .i64 a') := V21.out.cell 0
          have u1 : X.cell? ⟨bi, 1, none⟩ = some (.int .i64 b') := V21.out.cell 1
          have u2 : X.cell? ⟨bi, 2, none⟩ = some (.int .i64 d') := V21.out.cell 2
          clear hxf
          go_wp2
          refine wp_region_any (by kernel_rfl) ?_
          change wpAny _ _ _ _ _ _ _ (World.drew _)
          refine take_at (i := 1) (some 72) (v := ?vg2) rfl rfl (by kernel_rfl) (by kernel_rfl) (by kernel_rfl) (fun _ _ _ h => h) (Or.inl ⟨by rfl, ?hg2⟩) ?rg2
          case hg2 => (intro w0; go_simp; try with_reducible rfl)
          simp only [Act.put, List.setIfInBounds_toArray, List.set_cons_zero, List.set_cons_succ]
          refine take_at (i := 3) (some 74) (v := ?vg3) rfl rfl (by kernel_rfl) (by kernel_rfl) (by kernel_rfl) (fun _ _ _ h => h) (Or.inl ⟨by rfl, ?hg3⟩) ?rg3
          case hg3 => (intro w0; go_simp; try with_reducible rfl)
          simp only [Act.put, List.setIfInBounds_toArray, List.set_cons_zero, List.set_cons_succ]
          refine take_at (i := 6) (some 77) (v := ?vg4) rfl rfl (by kernel_rfl) (by kernel_rfl) (by kernel_rfl) (fun _ _ _ h => h) (Or.inl ⟨by rfl, ?hg4⟩) ?rg4
          case hg4 => (intro w0; go_simp; try with_reducible rfl)
          simp only [Act.put, List.setIfInBounds_toArray, List.set_cons_zero, List.set_cons_succ]
          refine wpAny_go (fun A0 L aa w => ∃ (v71 v73 v75 v76 v78 v79 v80 v70 v81 v82 v22 v23 : Value) (A2 : Option Addr) (c2 : Nat) (hb : Nat), aa = fr A0 [(71, v71), (73, v73), (75, v75), (76, v76), (78, v78), (79, v79), (80, v80), (70, v70), (81, v81), (82, v82), (22, v22), (23, v23)] ∧ ((L 10 = true → L 9 = true) ∧ (L 11 = true → L 10 = true) ∧ (L 14 = true → L 11 = true) ∧ (L 14 = true → L 13 = true)) ∧ (Below X.heap.size X w) ∧ (Hid (L 9 = true → Rd w w.heap.size 6 A2 r'.k (onesC r'.st r'.k))) ∧ (Hid (L 9 = true → (A2 = A ∨ ∀ a, A2 = some a → X.heap.size ≤ a.block))) ∧ (Hid (L 9 = true → L 13 = true → ∀ a, A2 = some a → a.block ≠ hb)) ∧ (Hid (L 13 = true → X.heap.size ≤ hb ∧ Vr w hb 56 (if L 14 = true then #[.int .i64 r'.t, .slice A2 r'.k c2, .bool r'.o] else #[.int .i64 0, .slice none 0 0, .bool false]))) ∧ Hid (L 0 = true → v71 = Value.agg #[.int .i64 r.t, .slice A r.k c, .bool r.o]) ∧ Hid (L 2 = true → v73 = Value.int .i64 pp) ∧ Hid (L 4 = true → v75 = Value.int .i64 pp) ∧ Hid (L 5 = true → v76 = Value.agg #[.int .i64 a', .int .i64 b', .int .i64 d']) ∧ Hid (L 7 = true → v78 = Value.int .u64 nn) ∧ Hid (L 8 = true → v79 = Value.int .u64 C) ∧ Hid (L 9 = true → v80 = Value.tuple #[.agg #[.int .i64 r'.t, .slice A2 r'.k c2, .bool r'.o], .int .i64 E]) ∧ Hid (L 10 = true → v70 = Value.tuple #[.agg #[.int .i64 r'.t, .slice A2 r'.k c2, .bool r'.o], .int .i64 E]) ∧ Hid (L 11 = true → v81 = Value.agg #[.int .i64 r'.t, .slice A2 r'.k c2, .bool r'.o]) ∧ Hid (L 12 = true → v82 = Value.int .i64 E) ∧ Hid (L 13 = true → v22 = Value.pointer (some ⟨hb, 0, none⟩)) ∧ Hid (L 15 = true → v23 = Value.int .i64 E)) [0, 2, 4, 5, 7, 8, 9, 10, 11, 12, 13, 14, 15] (by kernel_rfl) (by kernel_rfl) ?a1I ?a1S ?a1D
          case a1I =>
            refine ⟨?v71, ?v73, ?v75, ?v76, ?v78, ?v79, ?v80, ?v70, ?v81, ?v82, ?v22, ?v23, A, 0, 0, ?fr, ⟨no_yet (by kernel_rfl), no_yet (by kernel_rfl), no_yet (by kernel_rfl), no_yet (by kernel_rfl)⟩, b_drew (Below.refl _ _), Lib.hid (no_yet (by kernel_rfl)), Lib.hid (no_yet (by kernel_rfl)), Lib.hid (no_yet (by kernel_rfl)), Lib.hid (no_yet (by kernel_rfl)), Lib.hid (no_yet (by kernel_rfl)), Lib.hid (no_yet (by kernel_rfl)), Lib.hid (no_yet (by kernel_rfl)), Lib.hid (no_yet (by kernel_rfl)), Lib.hid (no_yet (by kernel_rfl)), Lib.hid (no_yet (by kernel_rfl)), Lib.hid (no_yet (by kernel_rfl)), Lib.hid (no_yet (by kernel_rfl)), Lib.hid (no_yet (by kernel_rfl)), Lib.hid (no_yet (by kernel_rfl)), Lib.hid (no_yet (by kernel_rfl)), Lib.hid (no_yet (by kernel_rfl))⟩
            case fr => (simp only [fr, List.foldl_cons, List.foldl_nil, Act.put, List.setIfInBounds_toArray, List.set_cons_zero, List.set_cons_succ]; rfl)
          case a1S =>
            refine Steps.go (i := 0) (o := _) rfl ?s0 (Steps.go (i := 2) (o := _) rfl ?s2 (Steps.go (i := 4) (o := _) rfl ?s4 (Steps.go (i := 5) (o := _) rfl ?s5 (Steps.go (i := 7) (o := _) rfl ?s7 (Steps.go (i := 8) (o := _) rfl ?s8 (Steps.go (i := 9) (o := _) rfl ?s9 (Steps.go (i := 10) (o := _) rfl ?s10 (Steps.go (i := 11) (o := _) rfl ?s11 (Steps.go (i := 12) (o := _) rfl ?s12 (Steps.go (i := 13) (o := _) rfl ?s13 (Steps.go (i := 14) (o := _) rfl ?s14 (Steps.go (i := 15) (o := _) rfl ?s15 Steps.nil))))))))))))
            · rintro L aa w h0 hd ⟨v71, v73, v75, v76, v78, v79, v80, v70, v81, v82, v22, v23, A2, c2, hb, rfl, hY, hB, hR, hA, hN, hV, f0, f2, f4, f5, f7, f8, f9, f10, f11, f12, f13, f15⟩ K hK
              simp only [fr, List.foldl_cons, List.foldl_nil, Act.put, List.setIfInBounds_toArray, List.set_cons_zero, List.set_cons_succ]
              have z0 := cell_keep hB x0
              have z1 := cell_keep hB x1
              have z2 := cell_keep hB x2
              go_simp
              exact hK _ _ ⟨(Value.agg #[.int .i64 r.t, .slice A r.k c, .bool r.o]), v73, v75, v76, v78, v79, v80, v70, v81, v82, v22, v23, A2, c2, hb, (by simp only [fr, List.foldl_cons, List.foldl_nil, Act.put, List.setIfInBounds_toArray, List.set_cons_zero, List.set_cons_succ]), hY, hB, hR, hA, hN, hV, Lib.hid (fun _ => rfl), f2, f4, f5, f7, f8, f9, f10, f11, f12, f13, f15⟩
            · rintro L aa w h0 hd ⟨v71, v73, v75, v76, v78, v79, v80, v70, v81, v82, v22, v23, A2, c2, hb, rfl, hY, hB, hR, hA, hN, hV, f0, f2, f4, f5, f7, f8, f9, f10, f11, f12, f13, f15⟩ K hK
              simp only [fr, List.foldl_cons, List.foldl_nil, Act.put, List.setIfInBounds_toArray, List.set_cons_zero, List.set_cons_succ]
              have z1 := cell_keep hB y1
              go_simp
              exact hK _ _ ⟨v71, (Value.int .i64 pp), v75, v76, v78, v79, v80, v70, v81, v82, v22, v23, A2, c2, hb, (by simp only [fr, List.foldl_cons, List.foldl_nil, Act.put, List.setIfInBounds_toArray, List.set_cons_zero, List.set_cons_succ]), hY, hB, hR, hA, hN, hV, f0, Lib.hid (fun _ => rfl), f4, f5, f7, f8, f9, f10, f11, f12, f13, f15⟩
            · rintro L aa w h0 hd ⟨v71, v73, v75, v76, v78, v79, v80, v70, v81, v82, v22, v23, A2, c2, hb, rfl, hY, hB, hR, hA, hN, hV, f0, f2, f4, f5, f7, f8, f9, f10, f11, f12, f13, f15⟩ K hK
              simp only [fr, List.foldl_cons, List.foldl_nil, Act.put, List.setIfInBounds_toArray, List.set_cons_zero, List.set_cons_succ]
              have z1 := cell_keep hB y1
              go_simp
              exact hK _ _ ⟨v71, v73, (Value.int .i64 pp), v76, v78, v79, v80, v70, v81, v82, v22, v23, A2, c2, hb, (by simp only [fr, List.foldl_cons, List.foldl_nil, Act.put, List.setIfInBounds_toArray, List.set_cons_zero, List.set_cons_succ]), hY, hB, hR, hA, hN, hV, f0, f2, Lib.hid (fun _ => rfl), f5, f7, f8, f9, f10, f11, f12, f13, f15⟩
            · rintro L aa w h0 hd ⟨v71, v73, v75, v76, v78, v79, v80, v70, v81, v82, v22, v23, A2, c2, hb, rfl, hY, hB, hR, hA, hN, hV, f0, f2, f4, f5, f7, f8, f9, f10, f11, f12, f13, f15⟩ K hK
              simp only [fr, List.foldl_cons, List.foldl_nil, Act.put, List.setIfInBounds_toArray, List.set_cons_zero, List.set_cons_succ]
              have z0 := cell_keep hB u0
              have z1 := cell_keep hB u1
              have z2 := cell_keep hB u2
              go_simp
              exact hK _ _ ⟨v71, v73, v75, (Value.agg #[.int .i64 a', .int .i64 b', .int .i64 d']), v78, v79, v80, v70, v81, v82, v22, v23, A2, c2, hb, (by simp only [fr, List.foldl_cons, List.foldl_nil, Act.put, List.setIfInBounds_toArray, List.set_cons_zero, List.set_cons_succ]), hY, hB, hR, hA, hN, hV, f0, f2, f4, Lib.hid (fun _ => rfl), f7, f8, f9, f10, f11, f12, f13, f15⟩
            · rintro L aa w h0 hd ⟨v71, v73, v75, v76, v78, v79, v80, v70, v81, v82, v22, v23, A2, c2, hb, rfl, hY, hB, hR, hA, hN, hV, f0, f2, f4, f5, f7, f8, f9, f10, f11, f12, f13, f15⟩ K hK
              simp only [fr, List.foldl_cons, List.foldl_nil, Act.put, List.setIfInBounds_toArray, List.set_cons_zero, List.set_cons_succ]
              have z1 := cell_keep hB y5
              go_simp
              exact hK _ _ ⟨v71, v73, v75, v76, (Value.int .u64 nn), v79, v80, v70, v81, v82, v22, v23, A2, c2, hb, (by simp only [fr, List.foldl_cons, List.foldl_nil, Act.put, List.setIfInBounds_toArray, List.set_cons_zero, List.set_cons_succ]), hY, hB, hR, hA, hN, hV, f0, f2, f4, f5, Lib.hid (fun _ => rfl), f8, f9, f10, f11, f12, f13, f15⟩
            · rintro L aa w h0 hd ⟨v71, v73, v75, v76, v78, v79, v80, v70, v81, v82, v22, v23, A2, c2, hb, rfl, hY, hB, hR, hA, hN, hV, f0, f2, f4, f5, f7, f8, f9, f10, f11, f12, f13, f15⟩ K hK
              obtain rfl := f4.out (hd 4 (by kernel_rfl))
              obtain rfl := f5.out (hd 5 (by kernel_rfl))
              obtain rfl := f7.out (hd 7 (by kernel_rfl))
              simp only [fr, List.foldl_cons, List.foldl_nil, Act.put, List.setIfInBounds_toArray, List.set_cons_zero, List.set_cons_succ]
              go_simp
              refine (refcmt_any pp 30 a' b' d' nn _ HV.out HNN.out).mono ?_
              rintro e w2 ⟨he, hb2⟩
              rw [HCC.out] at he
              subst he
              exact hK _ _ ⟨v71, v73, (Value.int .i64 pp), (Value.agg #[.int .i64 a', .int .i64 b', .int .i64 d']), (Value.int .u64 nn), (Value.int .u64 C), v80, v70, v81, v82, v22, v23, A2, c2, hb, (by simp only [fr, List.foldl_cons, List.foldl_nil, Act.put, List.setIfInBounds_toArray, List.set_cons_zero, List.set_cons_succ]), hY, b_call hB hb2, Lib.hid (fun l => rd_step (hR.out l) hb2), hA, hN, Lib.hid (fun l => ⟨(hV.out l).1, (hV.out l).2.call hb2⟩), f0, f2, f4, f5, f7, Lib.hid (fun _ => rfl), f9, f10, f11, f12, f13, f15⟩
            · rintro L aa w h0 hd ⟨v71, v73, v75, v76, v78, v79, v80, v70, v81, v82, v22, v23, A2, c2, hb, rfl, hY, hB, hR, hA, hN, hV, f0, f2, f4, f5, f7, f8, f9, f10, f11, f12, f13, f15⟩ K hK
              obtain rfl := f0.out (hd 0 (by kernel_rfl))
              obtain rfl := f2.out (hd 2 (by kernel_rfl))
              obtain rfl := f8.out (hd 8 (by kernel_rfl))
              simp only [fr, List.foldl_cons, List.foldl_nil, Act.put, List.setIfInBounds_toArray, List.set_cons_zero, List.set_cons_succ]
              go_simp
              have HQ := refcommit_any A r.k c r.t r.o r.st w pp C (rd_step HPX.out.f.R hB) HK8.out HR.out
              change Calls _ _ _ _ (RetRefE A w (cmS r pp C) (cmE r pp)) at HQ
              rw [HE1.out, HR1.out] at HQ
              have e10 : L 10 = false := by rcases h : L 10 with _ | _ <;> first | rfl | exact absurd (hY.1 h) (by simp [h0])
              have e11 : L 11 = false := by rcases h : L 11 with _ | _ <;> first | rfl | exact absurd (hY.2.1 h) (by simp [e10])
              have e14 : L 14 = false := by rcases h : L 14 with _ | _ <;> first | rfl | exact absurd (hY.2.2.1 h) (by simp [e11])
              refine HQ.mono ?_
              rintro e w3 ⟨A3, c3, rfl, rd3, hb3, hn3⟩
              exact hK _ _ ⟨(Value.agg #[.int .i64 r.t, .slice A r.k c, .bool r.o]), (Value.int .i64 pp), v75, v76, v78, (Value.int .u64 C), (Value.tuple #[.agg #[.int .i64 r'.t, .slice (A3) r'.k (c3), .bool r'.o], .int .i64 E]), v70, v81, v82, v22, v23, A3, c3, hb, (by simp only [fr, List.foldl_cons, List.foldl_nil, Act.put, List.setIfInBounds_toArray, List.set_cons_zero, List.set_cons_succ]), ⟨fun _ => rfl, hY.2.1, hY.2.2.1, hY.2.2.2⟩, b_call hB hb3, Lib.hid (fun _ => rd3), Lib.hid (fun _ => fresh_or hB.size hn3), Lib.hid (fun _ l13 a e => fresh_ne HAL.out (hV.out l13).1 (hV.out l13).2.lt hn3 a e), Lib.hid (fun l => ⟨(hV.out l).1, by have h := (hV.out l).2.call hb3; show Vr _ _ _ (if L 14 = true then _ else _); rw [e14] at h ⊢; exact h⟩), f0, f2, f4, f5, f7, f8, Lib.hid (fun _ => rfl), Lib.hid (no_yet e10), Lib.hid (no_yet e11), f12, f13, f15⟩
            · rintro L aa w h0 hd ⟨v71, v73, v75, v76, v78, v79, v80, v70, v81, v82, v22, v23, A2, c2, hb, rfl, hY, hB, hR, hA, hN, hV, f0, f2, f4, f5, f7, f8, f9, f10, f11, f12, f13, f15⟩ K hK
              obtain rfl := f9.out (hd 9 (by kernel_rfl))
              simp only [fr, List.foldl_cons, List.foldl_nil, Act.put, List.setIfInBounds_toArray, List.set_cons_zero, List.set_cons_succ]
              have d9 := hd 9 (by kernel_rfl)
              go_simp
              exact hK _ _ ⟨v71, v73, v75, v76, v78, v79, (Value.tuple #[.agg #[.int .i64 r'.t, .slice A2 r'.k c2, .bool r'.o], .int .i64 E]), (Value.tuple #[.agg #[.int .i64 r'.t, .slice A2 r'.k c2, .bool r'.o], .int .i64 E]), v81, v82, v22, v23, A2, c2, hb, (by simp only [fr, List.foldl_cons, List.foldl_nil, Act.put, List.setIfInBounds_toArray, List.set_cons_zero, List.set_cons_succ]), ⟨fun _ => d9, fun _ => rfl, hY.2.2.1, hY.2.2.2⟩, hB, hR, hA, hN, hV, f0, f2, f4, f5, f7, f8, f9, Lib.hid (fun _ => rfl), f11, f12, f13, f15⟩
            · rintro L aa w h0 hd ⟨v71, v73, v75, v76, v78, v79, v80, v70, v81, v82, v22, v23, A2, c2, hb, rfl, hY, hB, hR, hA, hN, hV, f0, f2, f4, f5, f7, f8, f9, f10, f11, f12, f13, f15⟩ K hK
              obtain rfl := f10.out (hd 10 (by kernel_rfl))
              simp only [fr, List.foldl_cons, List.foldl_nil, Act.put, List.setIfInBounds_toArray, List.set_cons_zero, List.set_cons_succ]
              have d10 := hd 10 (by kernel_rfl)
              go_simp
              exact hK _ _ ⟨v71, v73, v75, v76, v78, v79, v80, (Value.tuple #[.agg #[.int .i64 r'.t, .slice A2 r'.k c2, .bool r'.o], .int .i64 E]), (Value.agg #[.int .i64 r'.t, .slice A2 r'.k c2, .bool r'.o]), v82, v22, v23, A2, c2, hb, (by simp only [fr, List.foldl_cons, List.foldl_nil, Act.put, List.setIfInBounds_toArray, List.set_cons_zero, List.set_cons_succ]), ⟨hY.1, fun _ => d10, fun _ => rfl, hY.2.2.2⟩, hB, hR, hA, hN, hV, f0, f2, f4, f5, f7, f8, f9, f10, Lib.hid (fun _ => rfl), f12, f13, f15⟩
            · rintro L aa w h0 hd ⟨v71, v73, v75, v76, v78, v79, v80, v70, v81, v82, v22, v23, A2, c2, hb, rfl, hY, hB, hR, hA, hN, hV, f0, f2, f4, f5, f7, f8, f9, f10, f11, f12, f13, f15⟩ K hK
              obtain rfl := f10.out (hd 10 (by kernel_rfl))
              simp only [fr, List.foldl_cons, List.foldl_nil, Act.put, List.setIfInBounds_toArray, List.set_cons_zero, List.set_cons_succ]
              go_simp
              exact hK _ _ ⟨v71, v73, v75, v76, v78, v79, v80, (Value.tuple #[.agg #[.int .i64 r'.t, .slice A2 r'.k c2, .bool r'.o], .int .i64 E]), v81, (Value.int .i64 E), v22, v23, A2, c2, hb, (by simp only [fr, List.foldl_cons, List.foldl_nil, Act.put, List.setIfInBounds_toArray, List.set_cons_zero, List.set_cons_succ]), hY, hB, hR, hA, hN, hV, f0, f2, f4, f5, f7, f8, f9, f10, f11, Lib.hid (fun _ => rfl), f13, f15⟩
            · rintro L aa w h0 hd ⟨v71, v73, v75, v76, v78, v79, v80, v70, v81, v82, v22, v23, A2, c2, hb, rfl, hY, hB, hR, hA, hN, hV, f0, f2, f4, f5, f7, f8, f9, f10, f11, f12, f13, f15⟩ K hK
              simp only [fr, List.foldl_cons, List.foldl_nil, Act.put, List.setIfInBounds_toArray, List.set_cons_zero, List.set_cons_succ]
              have e14 : L 14 = false := by rcases h : L 14 with _ | _ <;> first | rfl | exact absurd (hY.2.2.2 h) (by simp [h0])
              go_simp
              exact hK _ _ ⟨v71, v73, v75, v76, v78, v79, v80, v70, v81, v82, (Value.pointer (some ⟨(w.heap.size), 0, none⟩)), v23, A2, c2, w.heap.size, (by simp only [fr, List.foldl_cons, List.foldl_nil, Act.put, List.setIfInBounds_toArray, List.set_cons_zero, List.set_cons_succ]), ⟨hY.1, hY.2.1, hY.2.2.1, fun _ => rfl⟩, b_alloc hB _, Lib.hid (fun l => rd_step (hR.out l) (b_alloc (Below.refl _ _) _)), hA, Lib.hid (fun l9 _ => ref_lt (hR.out l9) HK1.out), Lib.hid (fun _ => ⟨hB.size, by show Vr _ _ _ (if L 14 = true then _ else _); rw [e14]; exact Vr.new w _ _⟩), f0, f2, f4, f5, f7, f8, f9, f10, f11, f12, Lib.hid (fun _ => rfl), f15⟩
            · rintro L aa w h0 hd ⟨v71, v73, v75, v76, v78, v79, v80, v70, v81, v82, v22, v23, A2, c2, hb, rfl, hY, hB, hR, hA, hN, hV, f0, f2, f4, f5, f7, f8, f9, f10, f11, f12, f13, f15⟩ K hK
              obtain rfl := f11.out (hd 11 (by kernel_rfl))
              obtain rfl := f13.out (hd 13 (by kernel_rfl))
              simp only [fr, List.foldl_cons, List.foldl_nil, Act.put, List.setIfInBounds_toArray, List.set_cons_zero, List.set_cons_succ]
              have d11 := hd 11 (by kernel_rfl)
              have d13 := hd 13 (by kernel_rfl)
              have hv := hV.out d13
              simp only [h0, Bool.false_eq_true, if_false] at hv
              have HV1 := Lib.hid hv
              have z0 : w.cell? ⟨hb, 0, none⟩ = some (.int .i64 0) := hv.2.cell 0
              have z1 : w.cell? ⟨hb, 1, none⟩ = some (.slice none 0 0) := hv.2.cell 1
              have z2 : w.cell? ⟨hb, 2, none⟩ = some (.bool false) := hv.2.cell 2
              have zl := hv.2.lt
              have zf := hv.2.frozen
              clear hv
              go_simp
              exact hK _ _ ⟨v71, v73, v75, v76, v78, v79, v80, v70, (Value.agg #[.int .i64 r'.t, .slice A2 r'.k c2, .bool r'.o]), v82, (Value.pointer (some ⟨hb, 0, none⟩)), v23, A2, c2, hb, (by simp only [fr, List.foldl_cons, List.foldl_nil, Act.put, List.setIfInBounds_toArray, List.set_cons_zero, List.set_cons_succ]), ⟨hY.1, hY.2.1, fun _ => d11, fun _ => d13⟩, b_set (b_set (b_set hB HV1.out.1 _) HV1.out.1 _) HV1.out.1 _, Lib.hid (fun l9 => rd_set3 (hR.out l9) (hN.out l9 d13) _ _ _), hA, hN, Lib.hid (fun _ => ⟨HV1.out.1, by show Vr _ _ _ (if true = true then _ else _); rw [if_pos rfl]; simpa using ((HV1.out.2.set 0 (.int .i64 r'.t)).set 1 (.slice A2 r'.k c2)).set 2 (.bool r'.o)⟩), f0, f2, f4, f5, f7, f8, f9, f10, f11, f12, f13, f15⟩
            · rintro L aa w h0 hd ⟨v71, v73, v75, v76, v78, v79, v80, v70, v81, v82, v22, v23, A2, c2, hb, rfl, hY, hB, hR, hA, hN, hV, f0, f2, f4, f5, f7, f8, f9, f10, f11, f12, f13, f15⟩ K hK
              obtain rfl := f12.out (hd 12 (by kernel_rfl))
              simp only [fr, List.foldl_cons, List.foldl_nil, Act.put, List.setIfInBounds_toArray, List.set_cons_zero, List.set_cons_succ]
              go_simp
              exact hK _ _ ⟨v71, v73, v75, v76, v78, v79, v80, v70, v81, (Value.int .i64 E), v22, (Value.int .i64 E), A2, c2, hb, (by simp only [fr, List.foldl_cons, List.foldl_nil, Act.put, List.setIfInBounds_toArray, List.set_cons_zero, List.set_cons_succ]), hY, hB, hR, hA, hN, hV, f0, f2, f4, f5, f7, f8, f9, f10, f11, f12, f13, Lib.hid (fun _ => rfl)⟩
          case a1D =>
            rintro L aa w hL ⟨v71, v73, v75, v76, v78, v79, v80, v70, v81, v82, v22, v23, A2, c2, hb, rfl, hY, hB, hR, hA, hN, hV, f0, f2, f4, f5, f7, f8, f9, f10, f11, f12, f13, f15⟩
            obtain rfl := f0.out (hL 0 (by decide))
            obtain rfl := f2.out (hL 2 (by decide))
            obtain rfl := f4.out (hL 4 (by decide))
            obtain rfl := f5.out (hL 5 (by decide))
            obtain rfl := f7.out (hL 7 (by decide))
            obtain rfl := f8.out (hL 8 (by decide))
            obtain rfl := f9.out (hL 9 (by decide))
            obtain rfl := f10.out (hL 10 (by decide))
            obtain rfl := f11.out (hL 11 (by decide))
            obtain rfl := f12.out (hL 12 (by decide))
            obtain rfl := f13.out (hL 13 (by decide))
            obtain rfl := f15.out (hL 15 (by decide))
            have l14 := hL 14 (by decide)
            simp only [fr, List.foldl_cons, List.foldl_nil, Act.put, List.setIfInBounds_toArray, List.set_cons_zero, List.set_cons_succ]
            have V22 := (hV.out (hL 13 (by decide)))
            rw [l14, if_pos rfl] at V22
            have RW := Lib.hid (hR.out (hL 9 (by decide)))
            have HN8 := Lib.hid (HPX.out.fresh (Nat.le_refl _) (hA.out (hL 9 (by decide))))
            have PZ := Lib.hid (HPX.out.call hB)
            have V19 := Lib.hid (V19.out.call hB)
            have V22' := Lib.hid V22.2
            have hhb := V22.1
            have hne8 : ¬ hb = bx := by have := HPX.out.f.cells.2.2.2.1; omega
            clear V22 hV hA hN hR hY x0 x1 x2 y1 y5 u0 u1 u2
            obtain ⟨x0, x1, x2, hxl, hxf⟩ := PZ.out.f.cells
            have t0 : w.cell? ⟨hb, 0, none⟩ = some (.int .i64 r'.t) := V22'.out.cell 0
            have t1 : w.cell? ⟨hb, 1, none⟩ = some (.slice A2 r'.k c2) := V22'.out.cell 1
            have t2 : w.cell? ⟨hb, 2, none⟩ = some (.bool r'.o) := V22'.out.cell 2
            go_wp2
            go_meet
            case rel => exact ⟨A2, c2, rfl, Lib.hid (PZ.out.put (o_set (o_set (o_set (Only.refl _ _) 0 (.int .i64 r'.t)) 1 (.slice A2 r'.k c2)) 2 (.bool r'.o)) (by simpa using ((PZ.out.f.V.set 0 (.int .i64 r'.t)).set 1 (.slice A2 r'.k c2)).set 2 (.bool r'.o)) RW.out HN8.out), Lib.hid (((V19.out.far (p := ⟨bx, 0, none⟩) hba2 _).far (p := ⟨bx, 1, none⟩) hba2 _).far (p := ⟨bx, 2, none⟩) hba2 _)⟩
        · have hE1 : rvE r pp (xa, xb, xc) nn = E := by rw [← HE.out, dsE_1]
          have hR1 : rvS r pp (xa, xb, xc) nn = r' := by rw [← HR'.out, dsR_1]
          have HQ := refreveal_any A r.k c r.t r.o r.st Y pp xa xb xc nn HPY.out.f.R (by rw [HK.out.1]; omega) ⟨GA.out.hn.1, by have := GA.out.hn.2; simp only at this; omega⟩
          change Calls _ _ _ _ (RetRefE A Y (rvS r pp (xa, xb, xc) nn) (rvE r pp (xa, xb, xc) nn)) at HQ
          rw [hR1, hE1] at HQ
          clear hE1 hR1
          go_wp2_with fail
          refine HQ.mono ?_
          rintro e w8 ⟨A8, c8, rfl, rd8, hb8, hn8⟩
          have P8 := Lib.hid (HPY.out.call hb8)
          have V19 := Lib.hid (V19.out.call hb8)
          have R8 := Lib.hid rd8
          have HN8 := Lib.hid (HPY.out.fresh (Nat.le_refl _) hn8)
          clear HQ rd8 hb8 hn8 y0 y1 y2 y3 y4 y5 x0 x1 x2 hxl hxf HPY
          go_upto_region 22 with (fail)
          refine name_world ?_
          intro Z hZ
          have V24 := Lib.hid (show Vr Z w8.heap.size 56 #[.int .i64 r'.t, .slice A8 r'.k c8, .bool r'.o] from by rw [hZ]; exact Vr.new w8 _ _)
          have HBZ : Below w8.heap.size w8 Z := by rw [hZ]; (repeat (first | (with_reducible exact Below.refl _ _) | (with_reducible assumption) | (with_reducible refine b_drew ?_) | (with_reducible refine b_drewN ?_ _) | (with_reducible refine b_alloc ?_ _) | ((with_reducible refine b_set ?_ ?_ _); rotate_left; (focus (first | omega | (simp; done) | (simp; omega) | (simp at *; omega)))) | (with_reducible refine b_call ?_ (by with_reducible assumption))))
          have PZ := Lib.hid (P8.out.call HBZ)
          have V19 := Lib.hid (V19.out.call HBZ)
          have RZ := Lib.hid (rd_step R8.out HBZ)
          have hne8 : ¬ w8.heap.size = bx := by have := P8.out.f.cells.2.2.2.1; omega
          clear hZ HBZ P8 R8
          obtain ⟨x0, x1, x2, hxl, hxf⟩ := PZ.out.f.cells
          have t0 : Z.cell? ⟨w8.heap.size, 0, none⟩ = some (.int .i64 r'.t) := V24.out.cell 0
          have t1 : Z.cell? ⟨w8.heap.size, 1, none⟩ = some (.slice A8 r'.k c8) := V24.out.cell 1
          have t2 : Z.cell? ⟨w8.heap.size, 2, none⟩ = some (.bool r'.o) := V24.out.cell 2
          go_wp2
          go_meet
          case rel => exact ⟨A8, c8, rfl, Lib.hid (PZ.out.put (o_set (o_set (o_set (Only.refl _ _) 0 (.int .i64 r'.t)) 1 (.slice A8 r'.k c8)) 2 (.bool r'.o)) (by simpa using ((PZ.out.f.V.set 0 (.int .i64 r'.t)).set 1 (.slice A8 r'.k c8)).set 2 (.bool r'.o)) RZ.out HN8.out), Lib.hid (((V19.out.far (p := ⟨bx, 0, none⟩) hba2 _).far (p := ⟨bx, 1, none⟩) hba2 _).far (p := ⟨bx, 2, none⟩) hba2 _)⟩
        · have hE2 : E = 0 := by rw [← HE.out, dsE_2]
          have hR2 : r' = closeR r := by rw [← HR'.out, dsR_2]
          subst hE2 hR2
          go_wp2
          go_meet
          case rel => exact ⟨A, c, rfl, Lib.hid (HPY.out.put (o_set (Only.refl _ _) 2 (.bool true)) (HPY.out.f.V.set 2 (.bool true)) HPY.out.f.R HPY.out.f.n), Lib.hid (V19.out.far (p := ⟨bx, 2, none⟩) hba2 _)⟩
      case' rest =>
        clear HPY V19 y0 y1 y2 y3 y4 y5 x0 x1 x2 hxl hxf
      obtain ⟨A', c', rfl, HPY, V19⟩ := hcut
      obtain ⟨Z, rfl⟩ : ∃ W : World, W = wc := ⟨_, rfl⟩
      have y0 : Z.cell? ⟨ba, 0, none⟩ = some (.int .i64 d) := V19.out.cell 0
      have y1 : Z.cell? ⟨ba, 1, none⟩ = some (.int .i64 pp) := V19.out.cell 1
      have y2 : Z.cell? ⟨ba, 2, none⟩ = some (.int .i64 xa) := V19.out.cell 2
      have y3 : Z.cell? ⟨ba, 3, none⟩ = some (.int .i64 xb) := V19.out.cell 3
      have y4 : Z.cell? ⟨ba, 4, none⟩ = some (.int .i64 xc) := V19.out.cell 4
      have y5 : Z.cell? ⟨ba, 5, none⟩ = some (.int .u64 nn) := V19.out.cell 5
      obtain ⟨x0, x1, x2, hxl, hxf⟩ := HPY.out.f.cells
      have hbxg : ¬ bx = g := HPY.out.hne
      have hbal := V19.out.lt
      have qE : (E != E) = false := bne_self_eq_false E
      have qo : (r'.o != r'.o) = false := bne_self_eq_false r'.o
      have CR := Lib.hid HPY.out.x.cr
      have hk8' : r.k ≤ 8 := by rw [HK.out.1]; omega
      have HK8 := Lib.hid hk8'
      clear hk8' hxf
      go_wp2
      go_region_held3 (fun w' => (∀ b o, b < Z.heap.size → b ≠ g → w'.cell? ⟨b, o, none⟩ = Z.cell? ⟨b, o, none⟩) ∧ Only (· = g) Z w') (exact stillG (by (repeat (first | (with_reducible exact Only.refl _ _) | (with_reducible assumption) | (with_reducible refine o_drew ?_) | (with_reducible refine o_drewN ?_ _) | (with_reducible refine o_alloc ?_ _) | (with_reducible refine o_call ?_ (by with_reducible assumption)) | (with_reducible refine o_below ?_ (by with_reducible assumption)))))) (first | (go_at_call 23; refine (does_q g 30 d pp xa xb xc nn r _ E r' GA.out HE.out HR'.out (CR.out.call (by (repeat (first | (with_reducible exact Below.refl _ _) | (with_reducible assumption) | (with_reducible refine b_drew ?_) | (with_reducible refine b_drewN ?_ _) | (with_reducible refine b_alloc ?_ _) | ((with_reducible refine b_set ?_ ?_ _); rotate_left; (focus (first | omega | (simp; done) | (simp; omega) | (simp at *; omega)))) | (with_reducible refine b_call ?_ (by with_reducible assumption)))))) HK8.out).mono ?_; rintro e w9 ⟨rfl, hC9, hO9⟩) | (go_at_call 31; refine (cropen_any g r' _ hC9).mono ?_; rintro e w10 ⟨rfl, rfl⟩))
      go_upto_if 113 with fail
      refine name_world ?_
      intro Q hQ
      have PQ := Lib.hid (HPY.out.turn (w' := Q) (r' := r') (by rw [hQ]; exact hC9) (by rw [hQ]; (repeat (first | (with_reducible exact Only.refl _ _) | (with_reducible assumption) | (with_reducible refine o_drew ?_) | (with_reducible refine o_drewN ?_ _) | (with_reducible refine o_alloc ?_ _) | (with_reducible refine o_call ?_ (by with_reducible assumption)) | (with_reducible refine o_below ?_ (by with_reducible assumption))))))
      clear hQ hC9 hO9 y0 y1 y2 y3 y4 y5 x0 x1 x2 hxl CR HK8 HPY V19 hbal
      have hk8' : r'.k ≤ 8 := by rw [HK'.out.1]; omega
      have HK8 := Lib.hid hk8'
      clear hk8'
      go_wp2_with fail
      refine (result_any g A5 mk c5 known r' _ PQ.out.x.cr HK8.out (rd_own PQ.out.kn)).mono ?_
      rintro e w11 ⟨A11, c11, A12, c12, rfl, o1, o2, hb11⟩
      have S1 := Lib.hid (rd_own o1)
      have S2 := Lib.hid (rd_own o2)
      have PQ := Lib.hid (PQ.out.call hb11)
      have HQ := refresult_any A' r'.k c' r'.t r'.o r'.st A5 mk c5 known w11 PQ.out.f.R HK8.out (rd_own PQ.out.kn)
      change Calls _ _ _ _ (RetRes w11 r' known) at HQ
      obtain ⟨x0, x1, x2, hxl, hxf⟩ := PQ.out.f.cells
      clear o1 o2 hb11 hxf
      go_wp2_with fail
      refine HQ.mono ?_
      rintro e w12 ⟨A13, c13, A14, c14, rfl, o1, o2, hb12⟩
      have S3 := Lib.hid (rd_own o1)
      have S4 := Lib.hid (rd_own o2)
      have S1 := Lib.hid (rd_step S1.out hb12)
      have S2 := Lib.hid (rd_step S2.out hb12)
      have PQ := Lib.hid (PQ.out.call hb12)
      have lF := resF_le r' r'.k
      have hk8 := HK8.out
      obtain ⟨rk, hrk⟩ : ∃ x, r'.k = x := ⟨_, rfl⟩
      rw [hrk] at S1 S2 S3 S4 lF hk8 ⊢
      obtain ⟨nF, hnF⟩ : ∃ x, (resF r' rk).length = x := ⟨_, rfl⟩
      rw [hnF] at S2 S4 lF ⊢
      clear o1 o2 hb12 x0 x1 x2 hxl HQ hnF hrk
      go_wp2_with fail
      refine (equal_any A11 A13 rk c11 rk c13 _ _ _ S1.out S3.out (by omega) (by omega)).mono ?_
      rintro e w13 ⟨rfl, hb13⟩
      rw [show decide (resL r' known rk = resL r' known rk) = true from decide_eq_true rfl]
      have S2 := Lib.hid (rd_step S2.out hb13)
      have S4 := Lib.hid (rd_step S4.out hb13)
      have PQ := Lib.hid (PQ.out.call hb13)
      clear hb13 S1 S3
      go_wp2_with fail
      refine (sameints_any A12 A14 nF c12 nF c14 _ _ _ S2.out S4.out (by omega) (by omega)).mono ?_
      rintro e w14 ⟨rfl, hb14⟩
      rw [show decide (resF r' rk = resF r' rk) = true from decide_eq_true rfl]
      have PQ := Lib.hid (PQ.out.call hb14)
      clear hb14 S2 S4
      go_wp2
      go_roundw
      case rel => exact ⟨i + 1, r', A', c', by omega, by go_num, PQ, HOK, HK'⟩
      case measure => simp [intOf]; omega
    · obtain rfl : m = i := by omega
      have HOO := Lib.hid (HK.out.2.2 rfl)
      have hk8' : r.k ≤ 8 := by rw [HK.out.1]; omega
      have HK8 := Lib.hid hk8'
      clear hk8'
      go_wp2
      go_loopw [30] (fun s30 wr => ∃ (j : Int) (r' : RdV), -1 ≤ j ∧ j ≤ (k : Int) + 1 ∧ s30 = .int .i64 j ∧ Hid (Py w wr g bx b10 BX ra rb rc A7 m c7 La A5 mk c5 known r' r A c) ∧ Hid (Ag j r' r)) (fun s30 _ => ((k : Int) + 1 - intOf s30).toNat)
      case atStart => exact ⟨-1, r, by omega, by omega, rfl, HP, ag_self _ _⟩
      case round =>
        obtain ⟨j, r', hj1, hj2, rfl, HP, HA⟩ := hrel
        by_cases hjk : j ≤ k
        · have d1 : decide (j ≤ (k : Int)) = true := decide_eq_true hjk
          obtain ⟨E1, hE1⟩ : ∃ x, cmE r j = x := ⟨_, rfl⟩
          obtain ⟨E2, hE2⟩ : ∃ x, rvE r j (ra, rb, rc) nc = x := ⟨_, rfl⟩
          have hcm := ag_cm HA.out HOO.out
          have hrv := ag_rv HA.out (ra, rb, rc) nc
          rw [hE1] at hcm
          rw [hE2] at hrv
          have HC := Lib.hid hcm
          have HV := Lib.hid hrv
          have HQ1 := refcommit_any A r.k c r.t r.o r.st wr j cc HP.out.f.R HK8.out HR.out
          change Calls _ _ _ _ (RetRefE A wr (cmS r j cc) (cmE r j)) at HQ1
          rw [hE1] at HQ1
          have HEE := Lib.hid hE2
          clear hE1 hE2 hcm hrv
          obtain ⟨x0, x1, x2, hxl, hxf⟩ := HP.out.f.cells
          clear hxf
          go_wp2_with fail
          refine HQ1.mono ?_
          rintro e w8 ⟨A8, c8, rfl, _, hb8, _⟩
          have P8 := Lib.hid (HP.out.call hb8)
          clear HQ1 hb8 x0 x1 x2 hxl HP
          go_upto_region 35 with (fail)
          refine name_world ?_
          intro Z hZ
          have PZ := Lib.hid (P8.out.call (show Below w8.heap.size w8 Z from by rw [hZ]; (repeat (first | (with_reducible exact Below.refl _ _) | (with_reducible assumption) | (with_reducible refine b_drew ?_) | (with_reducible refine b_drewN ?_ _) | (with_reducible refine b_alloc ?_ _) | ((with_reducible refine b_set ?_ ?_ _); rotate_left; (focus (first | omega | (simp; done) | (simp; omega) | (simp at *; omega)))) | (with_reducible refine b_call ?_ (by with_reducible assumption))))))
          clear hZ P8
          obtain ⟨x0, x1, x2, hxl, hxf⟩ := PZ.out.f.cells
          have u0 : Z.cell? ⟨b10, 0, none⟩ = some (.int .i64 ra) := PZ.out.v.cell 0
          have u1 : Z.cell? ⟨b10, 1, none⟩ = some (.int .i64 rb) := PZ.out.v.cell 1
          have u2 : Z.cell? ⟨b10, 2, none⟩ = some (.int .i64 rc) := PZ.out.v.cell 2
          have HQ2 := refreveal_any A r.k c r.t r.o r.st Z j ra rb rc nc PZ.out.f.R HK8.out HNC.out
          change Calls _ _ _ _ (RetRefE A Z (rvS r j (ra, rb, rc) nc) (rvE r j (ra, rb, rc) nc)) at HQ2
          rw [HEE.out] at HQ2
          clear hxf
          go_wp2_with fail
          refine HQ2.mono ?_
          rintro e w9 ⟨A9, c9, rfl, _, hb9, _⟩
          have P9 := Lib.hid (PZ.out.call hb9)
          clear HQ2 hb9 x0 x1 x2 hxl PZ u0 u1 u2
          go_upto_region 36 with (fail)
          refine name_world ?_
          intro Y hY
          have PY := Lib.hid (P9.out.call (show Below w9.heap.size w9 Y from by rw [hY]; (repeat (first | (with_reducible exact Below.refl _ _) | (with_reducible assumption) | (with_reducible refine b_drew ?_) | (with_reducible refine b_drewN ?_ _) | (with_reducible refine b_alloc ?_ _) | ((with_reducible refine b_set ?_ ?_ _); rotate_left; (focus (first | omega | (simp; done) | (simp; omega) | (simp at *; omega)))) | (with_reducible refine b_call ?_ (by with_reducible assumption))))))
          clear hY P9
          have hk8'' : r'.k ≤ 8 := by rw [HA.out.k]; exact HK8.out
          have HK8' := Lib.hid hk8''
          clear hk8''
          go_wp2_with fail
          refine (commit_q g j cc r' _ E1 r' HC.out.1 (cmS_bad (by rw [HC.out.1]; exact HC.out.2)) PY.out.x.cr HK8'.out).mono ?_
          rintro e w10 ⟨rfl, hC10, hO10⟩
          have P10 := Lib.hid (PY.out.turn hC10 hO10)
          clear hC10 hO10 PY
          have u0 : w10.cell? ⟨b10, 0, none⟩ = some (.int .i64 ra) := P10.out.v.cell 0
          have u1 : w10.cell? ⟨b10, 1, none⟩ = some (.int .i64 rb) := P10.out.v.cell 1
          have u2 : w10.cell? ⟨b10, 2, none⟩ = some (.int .i64 rc) := P10.out.v.cell 2
          have qE : (E1 != E1) = false := bne_self_eq_false E1
          go_wp2_with fail
          refine (reveal_q g j ra rb rc nc r' _ E2 _ HV.out.1 rfl P10.out.x.cr HK8'.out HNC.out).mono ?_
          rintro e w11 ⟨rfl, hC11, hO11⟩
          have P11 := Lib.hid (P10.out.turn hC11 hO11)
          have qE2 : (E2 != E2) = false := bne_self_eq_false E2
          clear hC11 hO11 P10 u0 u1 u2
          go_wp2
          go_roundw
          case rel => exact ⟨j + 1, _, by omega, by omega, rfl, P11, HV.out.2⟩
          case measure => simp [intOf]; omega
        · have d1 : decide (j ≤ (k : Int)) = false := decide_eq_false hjk
          go_wp2_with fail
          refine (lives_any _).mono ?_
          rintro e w7 ⟨rfl, hb7⟩
          go_wp2
          go_ret
          exact ⟨rfl, (HP.out.x.call hb7).hb⟩
end Go.Proofs.Ytojmkfhinkmhaaa
