/-
  WHAT IS PROVED HERE: the walk of the law JournalLimits: it returns true at every input and leaves old memory as it was. No condition.
-/
import Derived.Test.YtmoajnekegbncaaJnN
import Derived.Laws.OwnMore
namespace Go.Proofs.Ytmoajnekegbncaa
set_option linter.unusedVariables false
open Go.ChangeShapes Go.WideShapes Go.ChangeAt Go.RowKit

/-- a slice of bytes of one's own, whatever they are -/
def OwnY (w : World) (base g n : Nat) : Prop := ∃ y : List Int, Bytes y ∧ w.ownsRow base 5 1 (.slice (some ⟨g, 0, none⟩) n n) n (y.map (Value.int .u8))
theorem OwnY.cell {w : World} {base g n k : Nat} (h : OwnY w base g n) (hk : k < n) : ∃ u, w.cell? ⟨g, k, none⟩ = some u ∧ w.frozen? ⟨g, k, none⟩ = false ∧ g < w.heap.size := by
  obtain ⟨y, _, h⟩ := h
  obtain ⟨b, o, hl, e, _, hc⟩ := (rd_own h).openMap hk
  injection e with e
  injection e with e1 e2
  subst e1 e2
  rw [Nat.zero_add] at hc
  obtain ⟨g', cur, e3, _, V, _, _, _⟩ := own_open h (by omega)
  injection e3 with e3
  injection e3 with e3
  subst e3
  exact ⟨_, hc, V.frozen k, V.lt⟩
theorem OwnY.set {w : World} {base g n : Nat} (h : OwnY w base g n) (k : Nat) {u : Int} (hu : 0 ≤ u ∧ u ≤ 255) : OwnY (w.setCell ⟨g, k, none⟩ (.int .u8 u)) base g n := by
  obtain ⟨y, hy, h⟩ := h
  refine ⟨y.set k u, fun x hx => ?_, ?_⟩
  · rcases List.mem_or_eq_of_mem_set hx with hx | hx
    · exact hy x hx
    · rw [hx]; exact hu
  · rw [← map_set_u8]
    exact own_set h k _
set_option maxRecDepth 100000 in
set_option maxHeartbeats 4000000 in
theorem jlimits_walk (size c : Int) (w : World) (hs : -9223372036854775808 ≤ size ∧ size ≤ 9223372036854775807) (hc : 0 ≤ c ∧ c ≤ 255) :
    Calls Try.prog 7 #[.int .i64 size, .int .u8 c] w fun e w' => e = .returned (.bool true) ∧ Below w.heap.size w w' := by
  obtain ⟨hs1, hs2⟩ := hs
  have HC := Lib.hid hc
  obtain ⟨hcc1, hcc2⟩ := hc
  have ha := around_bd size 6 (by omega)
  go_enter Try.func7, Try.ntmps7
  go_wp2_with fail
  refine (around_any size 6 _ hs1 hs2 (by omega) (by omega)).mono ?_
  rintro e w_ ⟨rfl, rfl⟩
  obtain ⟨q, hq⟩ : ∃ q : Nat, around size 6 = (q : Int) := ⟨(around size 6).toNat, by omega⟩
  rw [hq] at ha ⊢
  obtain ⟨n, hn⟩ : ∃ n : Nat, 3998 + q = n := ⟨_, rfl⟩
  have hadd : (3998 : Int) + (q : Int) = (n : Int) := by omega
  have hn1 : 3998 ≤ n := by omega
  have hn2 : n ≤ 4003 := by omega
  have hmk := fun W => run_mk (P := Try.prog) (z := .int .u8 0) (size := 1) (bytes := 1) Try.underlying27 (by kernel_rfl) n (by omega) (by omega) W
  clear ha hn hq
  go_wp2
  refine name_world ?_
  intro w1 hw1
  obtain ⟨g, hg⟩ : ∃ g, w.heap.size = g := ⟨_, rfl⟩
  have HG := Lib.hid hg
  have H1 := Lib.hid (show OwnY w1 g g n from by
    refine ⟨List.replicate n 0, fun x hx => by rw [List.eq_of_mem_replicate hx]; omega, ?_⟩
    have h := own_mk w 5 #[.int .u8 0] (n := n) (size := 1) (base := g) (by omega) (by omega)
    rw [made_one] at h
    rw [List.map_replicate, hw1, ← hg]
    rw [← hg] at h
    first | exact h | simpa using h)
  have B1 := Lib.hid (show Below w.heap.size w w1 from by rw [hw1]; (repeat (first | (with_reducible exact Below.refl _ _) | (with_reducible assumption) | (with_reducible refine b_drew ?_) | (with_reducible refine b_drewN ?_ _) | (with_reducible refine b_alloc ?_ _) | ((with_reducible refine b_set ?_ ?_ _); rotate_left; (focus (first | omega | (simp; done) | (simp; omega) | (simp at *; omega)))) | (with_reducible refine b_call ?_ (by with_reducible assumption)))))
  rw [hg]
  clear hw1 hmk hg
  go_loopw [7] (fun s7 wr => ∃ k : Nat, k ≤ n ∧ s7 = .int .i64 k ∧ Hid (OwnY wr g g n) ∧ Hid (Below w.heap.size w wr)) (fun i _ => n - (intOf i).toNat)
  case atStart => exact ⟨0, by omega, rfl, H1, B1⟩
  case round =>
    clear H1 B1
    obtain ⟨k, hk, rfl, HO, HB⟩ := hrel
    by_cases hlt : k < n
    · obtain ⟨u, hu, hf, hl⟩ := HO.out.cell hlt
      go_wp2
      go_roundw
      case rel => exact ⟨k + 1, by omega, by go_num, Lib.hid (HO.out.set k HC.out), Lib.hid (HB.out.setCell (p := ⟨g, k, none⟩) (by rw [HG.out]; exact Nat.le_refl _) _)⟩
      case measure => simp [intOf]; omega
    · obtain rfl : n = k := by omega
      obtain ⟨x, hxb, hown⟩ := HO.out
      have hxl : x.length = n := by have := hown.1; simpa using this
      have HXB := Lib.hid hxb
      have HXL := Lib.hid hxl
      have RX := Lib.hid (rd_own hown)
      have HFR := Lib.hid (show frameL x = n + 10 from by
        unfold frameL varL
        rw [hxl, if_neg (by omega)]
        omega)
      have HFB := Lib.hid (frameI_bytes hxb (by omega))
      clear hxb hown HO
      go_wp2_with fail
      refine (open_any none 0 0 [] (fun x hx => by cases hx) _ (Rd.nil none) (by omega) (by simp [maxLen]) (by omega)).mono ?_
      rintro e w2 hO
      obtain ⟨gl, F, rfl, hlg, hF, hb2⟩ := hO.get Opens.nil
      have LG2 := Lib.hid hlg
      have B2 := Lib.hid (b_call HB.out hb2)
      have HZ := Lib.hid HB.out.size
      have R2 := Lib.hid (rd_step RX.out hb2)
      have HF := Lib.hid hF
      have HRF := Lib.hid (show RdF w2 F (some ⟨g, 0, none⟩) n x from ⟨rd_step RX.out hb2, fun b o e hne hFb => by
        obtain ⟨b2, o2, e2, hb2', _⟩ := RX.out.2 (by simpa using hne)
        rw [e] at e2
        injection e2 with e2
        injection e2 with e3 e4
        have := hF _ hFb
        omega⟩)
      clear hO hlg hF hb2 HB RX
      by_cases hbig : 4000 < n
      · have HOP := Lib.hid (show Opens (frameI x) [] 8 from .form (step_big (by omega) (by omega)))
        clear hxl
        go_wp2_with fail
        refine (append_no _ _ n n _ hbig).mono ?_
        rintro e w_ ⟨rfl, rfl⟩
        go_wp2_with fail
        refine (frame_any _ n n x HXB.out _ R2.out (by omega)).mono ?_
        rw [HFR.out]
        rintro e w3 ⟨A3, c3, rfl, f1, f2, own3, hb3⟩
        have LG3 := Lib.hid (LG2.out.below hb3)
        have B3 := Lib.hid (b_call B2.out hb3)
        have R3 := Lib.hid (rd_own own3)
        clear own3 hb3 LG2 B2
        go_wp2_with fail
        refine (open_any A3 (n + 10) c3 (frameI x) HFB.out _ R3.out f1 f2 (by omega)).mono ?_
        rintro e w4 hO
        obtain ⟨rfl, hb4⟩ := hO.err HOP.out (by decide)
        have LG4 := Lib.hid (LG3.out.below hb4)
        have B4 := Lib.hid (b_call B3.out hb4)
        clear hO hb4 LG3 B3
        have hd : decide ((4000 : Int) < (n : Int)) = true := by simp; omega
        go_wp2_with fail
        refine (lbytes_any F gl [] _ _ 0 _ LG4.out rfl (by omega)).mono ?_
        rintro e w5 ⟨A5, c5, rfl, h1, h2, h3, hb5⟩
        have B5 := Lib.hid (b_call B4.out hb5)
        clear h1 h2 h3 hb5 LG4
        go_wp2_with fail
        refine (lives_any _).mono ?_
        rintro e w6 ⟨rfl, hb6⟩
        go_wp2
        go_ret
        exact ⟨rfl, b_call B5.out hb6⟩
      · have hns : n ≤ 4000 := by omega
        have HRS := Lib.hid (show Recs 4000 [x] from fun y hy => by
          simp at hy
          rw [hy, HXL.out]
          exact ⟨HXB.out, hns⟩)
        have HOP := Lib.hid (show Opens (frameI x) [x] 0 from by
          have := opens_all HRS.out
          rwa [framesI_one] at this)
        clear hxl hbig
        go_wp2_with fail
        refine (append_ok F gl [] _ n n x _ LG2.out HXB.out HRF.out hns (by simp [framesI]) (by simp)).mono ?_
        rintro e w3 ⟨rfl, F3, hlg3, hmv⟩
        obtain ⟨hb3, hF3⟩ := hmv.belowB (B := w.heap.size) B2.out.size (fun k hk => Nat.le_trans HZ.out (HF.out k hk))
        have LG3 := Lib.hid hlg3
        have B3 := Lib.hid (B2.out.trans hb3)
        have R3 := Lib.hid (HRF.out.mv hmv).1
        clear hlg3 hmv hb3 hF3 LG2 B2 HRF R2
        go_wp2_with fail
        refine (frame_any _ n n x HXB.out _ R3.out (by omega)).mono ?_
        rw [HFR.out]
        rintro e w4 ⟨A4, c4, rfl, f1, f2, own4, hb4⟩
        have LG4 := Lib.hid (LG3.out.below hb4)
        have B4 := Lib.hid (b_call B3.out hb4)
        have R4 := Lib.hid (rd_own own4)
        clear own4 hb4 LG3 B3 R3
        go_wp2_with fail
        refine (open_any A4 (n + 10) c4 (frameI x) HFB.out _ R4.out f1 f2 (by omega)).mono ?_
        rintro e w5 hO
        obtain ⟨g5, F5, rfl, _, _, hb5⟩ := hO.get HOP.out
        have LG5 := Lib.hid (LG4.out.below hb5)
        have B5 := Lib.hid (b_call B4.out hb5)
        clear hO hb5 LG4 B4
        have hd : decide ((4000 : Int) < (n : Int)) = false := by simp; omega
        go_wp2_with fail
        refine (lbytes_any F3 gl (framesI [x]) _ _ (n + 10) _ LG5.out (by rw [framesI_one, frameI_len, HFR.out]) (by omega)).mono ?_
        rintro e w6 ⟨A6, c6, rfl, h1, h2, h3, hb6⟩
        have B6 := Lib.hid (b_call B5.out hb6)
        have hq : ((n : Int) + 10 == (n : Int) + 10) = true := by simp
        clear h1 h2 h3 hb6 LG5
        go_wp2_with fail
        refine (lives_any _).mono ?_
        rintro e w7 ⟨rfl, hb7⟩
        go_wp2
        go_ret
        exact ⟨rfl, b_call B6.out hb7⟩
end Go.Proofs.Ytmoajnekegbncaa
