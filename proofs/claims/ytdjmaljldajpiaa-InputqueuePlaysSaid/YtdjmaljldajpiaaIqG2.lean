/-
  WHAT IS PROVED HERE: one statement of package inputqueue's fix, the append of the new row. No condition but that the queue lies in memory as stated.
-/
import Derived.Test.YtdjmaljldajpiaaIqG
namespace Go.Proofs.Ytdjmaljldajpiaa
set_option linter.unusedVariables false
open Go.ChangeShapes Go.WideShapes Go.ChangeAt Go.RowKit
open Go.Maps (Keyed)

def regionAt (n : Nat) : Code → Option Code
  | .region id ops b => if id = n then some (.region id ops b) else none
  | .loop c => regionAt n c
  | .seq a b => match regionAt n a with
    | some c => some c
    | none => regionAt n b
  | .block _ c => regionAt n c
  | .scope c => regionAt n c
  | .cond _ a b => match regionAt n a with
    | some c => some c
    | none => regionAt n b
  | _ => none
/-- A normal end, and no other. -/
def OnlyN (J : Act → World → Prop) : Exit → Act → World → Prop
  | .normal, a, w => J a w
  | _, _, _ => False
theorem OnlyN.then {J : Act → World → Prop} {Q' : Exit → Act → World → Prop} : ∀ (e : Exit) (a : Act) (w : World), OnlyN J e a w → Exit.then J Q' e a w := fun e a w h => by
  cases e <;> first | exact h | exact (h : False).elim
noncomputable def fix13 : Code := (Try.f30.body.bind (regionAt 13)).getD .skip
set_option maxRecDepth 100000 in
set_option maxHeartbeats 4000000 in
theorem fix_region (J : Act → World → Prop) (p b h2 : Nat) (g : Option Nat) (k wt nm n c : Nat) (A : Option Addr) (F : Lit → Option Value) (xs : List Value) (r : RowV) (w wr : World) (u1 u2 u3 u4 u6 u7 u8 u9 u10 u11 u12 u13 u14 u15 u16 u17 u18 u19 u20 u21 u22 u23 u24 u25 u26 u27 u28 u29 u30 u31 u32 u33 u34 u35 u36 u37 u38 u39 u40 u41 u42 u43 u44 u45 u46 u47 u48 u49 u50 u51 u52 u53 u54 u55 u56 u57 u58 u59 u60 u61 u62 u63 u64 u65 u66 u67 u68 u69 u70 u71 u72 : Value)
    (HVP : Vr w p 62 #[.int .i64 k, .int .i64 wt, .map (some b), .slice A n c]) (HM : MapV w Try.prog 3 b nm F) (HO : wr.ownsRow 0 75 32 (.slice A n c) n xs) (HG : (Value.slice A n c).ownBlock = g) (hB : Below w.heap.size w wr) (hn : n < 6000)
    (HN : Vr wr h2 75 (rowC r).toArray)
    (hQ : ∀ (A5 : Option Addr) (c5 : Nat) (Z : World) (v58 v59 v60 v61 v62 v63 v64 v65 v66 v67 : Value), FixMid w Z p b g k wt nm n A5 c5 F (xs ++ rowC r) → J ⟨#[Value.pointer (some ⟨p, 0, none⟩), u1, u2, u3, u4, Value.pointer (some ⟨h2, 0, none⟩), u6, u7, u8, u9, u10, u11, u12, u13, u14, u15, u16, u17, u18, u19, u20, u21, u22, u23, u24, u25, u26, u27, u28, u29, u30, u31, u32, u33, u34, u35, u36, u37, u38, u39, u40, u41, u42, u43, u44, u45, u46, u47, u48, u49, u50, u51, u52, u53, u54, u55, u56, u57, v58, v59, v60, v61, v62, v63, v64, v65, v66, v67, u68, u69, u70, u71, u72], []⟩ Z) :
    Code.wp Try.prog fix13 (OnlyN J) ⟨#[Value.pointer (some ⟨p, 0, none⟩), u1, u2, u3, u4, Value.pointer (some ⟨h2, 0, none⟩), u6, u7, u8, u9, u10, u11, u12, u13, u14, u15, u16, u17, u18, u19, u20, u21, u22, u23, u24, u25, u26, u27, u28, u29, u30, u31, u32, u33, u34, u35, u36, u37, u38, u39, u40, u41, u42, u43, u44, u45, u46, u47, u48, u49, u50, u51, u52, u53, u54, u55, u56, u57, u58, u59, u60, u61, u62, u63, u64, u65, u66, u67, u68, u69, u70, u71, u72], []⟩ wr := by
  have HVR := Lib.hid (HVP.keep hB HVP.lt)
  have HQ := Lib.hid hQ
  have HMm := Lib.hid HM
  have HOr := Lib.hid HO
  have HGG := Lib.hid HG
  have hpw : p < wr.heap.size := HVR.out.lt
  have hpf := HVR.out.frozen
  have y3 : wr.cell? ⟨p, 3, none⟩ = some (.slice A n c) := by rw [HVR.out.cell]; rfl
  have HRN := Lib.hid (show wr.drew.rangeAt h2 0 (rowC r) from fun j v hj => by
    show wr.cell? _ = _
    rw [HN.cell, Nat.zero_add]
    simpa using hj)
  have HRA := Lib.hid (fun (o : Obj) => World.rangeAt_alloc HRN.out o)
  have hl2 := HN.lt
  have hrl := rowC_len r
  have HVW := Lib.hid HVP
  clear HO HM HG hQ HN HVP
  conv => arg 2; whnf
  refine wp_region_any (by kernel_rfl) ?_
  change wpAny _ _ _ _ _ _ _ (World.drew _)
  refine wpAny_take (i := 0) (v := .pointer (some ⟨p, 0, none⟩)) rfl (by kernel_rfl) (by kernel_rfl) (by kernel_rfl) (fun _ _ _ h => h) (Or.inl ⟨by rfl, ?hx0⟩) ?rx0
  case hx0 =>
    intro w0
    go_simp
  case' rx0 =>
  (try dsimp only [Act.put, List.setIfInBounds_toArray, List.set_cons_zero, List.set_cons_succ])
  refine wpAny_take (i := 1) (v := .pointer (some ⟨p, 0, none⟩)) rfl (by kernel_rfl) (by kernel_rfl) (by kernel_rfl) (fun _ _ _ h => h) (Or.inl ⟨by rfl, ?hx1⟩) ?rx1
  case hx1 =>
    intro w0
    go_simp
  case' rx1 =>
  (try dsimp only [Act.put, List.setIfInBounds_toArray, List.set_cons_zero, List.set_cons_succ])
  refine wpAny_take (i := 2) (v := .pointer (some ⟨p, 0, none⟩)) rfl (by kernel_rfl) (by kernel_rfl) (by kernel_rfl) (fun _ _ _ h => h) (Or.inl ⟨by rfl, ?hx2⟩) ?rx2
  case hx2 =>
    intro w0
    go_simp
  case' rx2 =>
  (try dsimp only [Act.put, List.setIfInBounds_toArray, List.set_cons_zero, List.set_cons_succ])
  refine wpAny_take (i := 3) (v := .pointer (some ⟨p, 3, none⟩)) rfl (by kernel_rfl) (by kernel_rfl) (by kernel_rfl) (fun _ _ _ h => h) (Or.inl ⟨by rfl, ?hx3⟩) ?rx3
  case hx3 =>
    intro w0
    go_simp
  case' rx3 =>
  (try dsimp only [Act.put, List.setIfInBounds_toArray, List.set_cons_zero, List.set_cons_succ])
  refine wpAny_ready (rs := [4, 5]) (by kernel_rfl) (by simp) ?_
  refine AllReady.cons (o := _) rfl (fun K hK => ?_) ?_
  ·
    go_simp
    refine hK _ _ ?_
    clear hK K
    (try dsimp only [Act.put, List.setIfInBounds_toArray, List.set_cons_zero, List.set_cons_succ])
    refine wpAny_ready (rs := [5]) (by kernel_rfl) (by simp) ?_
    refine AllReady.cons (o := _) rfl (fun K hK => ?_) ?_
    ·
      refine step_load_mid rfl 75 (.tmp 5) rfl h2 0 rfl (rowC r) _ HRN.out Try.underlying75 rfl (by rw [rowC_len]; exact infoRow) ?_
      refine hK _ _ ?_
      clear hK K
      (try dsimp only [Act.put, List.setIfInBounds_toArray, List.set_cons_zero, List.set_cons_succ])
      refine wpAny_ready (rs := [6]) (by kernel_rfl) (by simp) ?_
      refine AllReady.cons (o := _) rfl (fun K hK => ?_) ?_
      ·
        refine step_build1 rfl (.tmp 63) slRows rfl (by omega) (rowC r).toArray rfl (by simp [hrl]) ?_
        refine hK _ _ ?_
        clear hK K
        (try dsimp only [Act.put, List.setIfInBounds_toArray, List.set_cons_zero, List.set_cons_succ])
        refine wpAny_ready (rs := [7]) (by kernel_rfl) (by simp) ?_
        refine AllReady.cons (o := _) rfl (fun K hK => ?_) ?_
        ·
          refine step_app _ rfl (.tmp 62) (.tmp 64) slRows rfl rfl ((own_drew HOr.out).alloc _) rfl (rd_lit _ _ _ (by simp [hrl]) rfl) (rowC_cell r) (n + 1) rfl (by unfold maxLen; omega) (by omega) (Nat.zero_le _) ?_
          intro A5 c5 Y3 g1 g2 g3 g4 g5
          refine hK _ _ ?_
          clear hK K
          (try dsimp only [Act.put, List.setIfInBounds_toArray, List.set_cons_zero, List.set_cons_succ])
          have VY := vr_app ((own_drew HOr.out).alloc _) (HVR.out.drew.alloc _) ne_qr g4
          obtain ⟨VY1, VY2, VY3⟩ := VY.facts
          obtain ⟨W1, hb1, g4, g5⟩ := grown_src (wr := wr) g4 g5 (by (repeat (first | (with_reducible exact Below.refl _ _) | (with_reducible assumption) | (with_reducible refine b_drew ?_) | (with_reducible refine b_drewN ?_ _) | (with_reducible refine b_alloc ?_ _) | ((with_reducible refine b_set ?_ ?_ _); rotate_left; (focus (first | omega | (simp; done) | (simp; omega) | (simp at *; omega)))) | (with_reducible refine b_call ?_ (by with_reducible assumption)))))
          refine wpAny_take (i := 8) (v := .pointer (some ⟨p, 0, none⟩)) rfl (by kernel_rfl) (by kernel_rfl) (by kernel_rfl) (fun _ _ _ h => h) (Or.inl ⟨by rfl, ?hx4⟩) ?rx4
          case hx4 =>
            intro w0
            go_simp
          case' rx4 =>
          (try dsimp only [Act.put, List.setIfInBounds_toArray, List.set_cons_zero, List.set_cons_succ])
          refine wpAny_take (i := 9) (v := .pointer (some ⟨p, 3, none⟩)) rfl (by kernel_rfl) (by kernel_rfl) (by kernel_rfl) (fun _ _ _ h => h) (Or.inl ⟨by rfl, ?hx5⟩) ?rx5
          case hx5 =>
            intro w0
            go_simp
          case' rx5 =>
          (try dsimp only [Act.put, List.setIfInBounds_toArray, List.set_cons_zero, List.set_cons_succ])
          refine wpAny_ready (rs := [10]) (by kernel_rfl) (by simp) ?_
          refine AllReady.cons (o := _) rfl (fun K hK => ?_) ?_
          ·
            go_simp
            refine hK _ _ ?_
            clear hK K
            (try dsimp only [Act.put, List.setIfInBounds_toArray, List.set_cons_zero, List.set_cons_succ])
            refine wpAny_done (by kernel_rfl) ?_ _
            exact HQ.out A5 c5 _ _ _ _ _ _ _ _ _ _ _ (fix_mid HVW.out HMm.out HOr.out HGG.out hB hb1 g1 g2 g3 g4 g5 VY)
          exact AllReady.nil
        exact AllReady.nil
      exact AllReady.nil
    exact AllReady.nil
  refine AllReady.cons (o := _) rfl (fun K hK => ?_) ?_
  ·
    refine step_load_mid rfl 75 (.tmp 5) rfl h2 0 rfl (rowC r) _ HRN.out Try.underlying75 rfl (by rw [rowC_len]; exact infoRow) ?_
    refine hK _ _ ?_
    clear hK K
    (try dsimp only [Act.put, List.setIfInBounds_toArray, List.set_cons_zero, List.set_cons_succ])
    refine wpAny_ready (rs := [4, 6]) (by kernel_rfl) (by simp) ?_
    refine AllReady.cons (o := _) rfl (fun K hK => ?_) ?_
    ·
      go_simp
      refine hK _ _ ?_
      clear hK K
      (try dsimp only [Act.put, List.setIfInBounds_toArray, List.set_cons_zero, List.set_cons_succ])
      refine wpAny_ready (rs := [6]) (by kernel_rfl) (by simp) ?_
      refine AllReady.cons (o := _) rfl (fun K hK => ?_) ?_
      ·
        refine step_build1 rfl (.tmp 63) slRows rfl (by omega) (rowC r).toArray rfl (by simp [hrl]) ?_
        refine hK _ _ ?_
        clear hK K
        (try dsimp only [Act.put, List.setIfInBounds_toArray, List.set_cons_zero, List.set_cons_succ])
        refine wpAny_ready (rs := [7]) (by kernel_rfl) (by simp) ?_
        refine AllReady.cons (o := _) rfl (fun K hK => ?_) ?_
        ·
          refine step_app _ rfl (.tmp 62) (.tmp 64) slRows rfl rfl ((own_drew HOr.out).alloc _) rfl (rd_lit _ _ _ (by simp [hrl]) rfl) (rowC_cell r) (n + 1) rfl (by unfold maxLen; omega) (by omega) (Nat.zero_le _) ?_
          intro A5 c5 Y3 g1 g2 g3 g4 g5
          refine hK _ _ ?_
          clear hK K
          (try dsimp only [Act.put, List.setIfInBounds_toArray, List.set_cons_zero, List.set_cons_succ])
          have VY := vr_app ((own_drew HOr.out).alloc _) (HVR.out.drew.alloc _) ne_qr g4
          obtain ⟨VY1, VY2, VY3⟩ := VY.facts
          obtain ⟨W1, hb1, g4, g5⟩ := grown_src (wr := wr) g4 g5 (by (repeat (first | (with_reducible exact Below.refl _ _) | (with_reducible assumption) | (with_reducible refine b_drew ?_) | (with_reducible refine b_drewN ?_ _) | (with_reducible refine b_alloc ?_ _) | ((with_reducible refine b_set ?_ ?_ _); rotate_left; (focus (first | omega | (simp; done) | (simp; omega) | (simp at *; omega)))) | (with_reducible refine b_call ?_ (by with_reducible assumption)))))
          refine wpAny_take (i := 8) (v := .pointer (some ⟨p, 0, none⟩)) rfl (by kernel_rfl) (by kernel_rfl) (by kernel_rfl) (fun _ _ _ h => h) (Or.inl ⟨by rfl, ?hx6⟩) ?rx6
          case hx6 =>
            intro w0
            go_simp
          case' rx6 =>
          (try dsimp only [Act.put, List.setIfInBounds_toArray, List.set_cons_zero, List.set_cons_succ])
          refine wpAny_take (i := 9) (v := .pointer (some ⟨p, 3, none⟩)) rfl (by kernel_rfl) (by kernel_rfl) (by kernel_rfl) (fun _ _ _ h => h) (Or.inl ⟨by rfl, ?hx7⟩) ?rx7
          case hx7 =>
            intro w0
            go_simp
          case' rx7 =>
          (try dsimp only [Act.put, List.setIfInBounds_toArray, List.set_cons_zero, List.set_cons_succ])
          refine wpAny_ready (rs := [10]) (by kernel_rfl) (by simp) ?_
          refine AllReady.cons (o := _) rfl (fun K hK => ?_) ?_
          ·
            go_simp
            refine hK _ _ ?_
            clear hK K
            (try dsimp only [Act.put, List.setIfInBounds_toArray, List.set_cons_zero, List.set_cons_succ])
            refine wpAny_done (by kernel_rfl) ?_ _
            exact HQ.out A5 c5 _ _ _ _ _ _ _ _ _ _ _ (fix_mid HVW.out HMm.out HOr.out HGG.out hB hb1 g1 g2 g3 g4 g5 VY)
          exact AllReady.nil
        exact AllReady.nil
      exact AllReady.nil
    refine AllReady.cons (o := _) rfl (fun K hK => ?_) ?_
    ·
      refine step_build1 rfl (.tmp 63) slRows rfl (by omega) (rowC r).toArray rfl (by simp [hrl]) ?_
      refine hK _ _ ?_
      clear hK K
      (try dsimp only [Act.put, List.setIfInBounds_toArray, List.set_cons_zero, List.set_cons_succ])
      refine wpAny_ready (rs := [4]) (by kernel_rfl) (by simp) ?_
      refine AllReady.cons (o := _) rfl (fun K hK => ?_) ?_
      ·
        go_simp
        refine hK _ _ ?_
        clear hK K
        (try dsimp only [Act.put, List.setIfInBounds_toArray, List.set_cons_zero, List.set_cons_succ])
        refine wpAny_ready (rs := [7]) (by kernel_rfl) (by simp) ?_
        refine AllReady.cons (o := _) rfl (fun K hK => ?_) ?_
        ·
          refine step_app _ rfl (.tmp 62) (.tmp 64) slRows rfl rfl ((own_drew HOr.out).alloc _) rfl (rd_lit _ _ _ (by simp [hrl]) rfl) (rowC_cell r) (n + 1) rfl (by unfold maxLen; omega) (by omega) (Nat.zero_le _) ?_
          intro A5 c5 Y3 g1 g2 g3 g4 g5
          refine hK _ _ ?_
          clear hK K
          (try dsimp only [Act.put, List.setIfInBounds_toArray, List.set_cons_zero, List.set_cons_succ])
          have VY := vr_app ((own_drew HOr.out).alloc _) (HVR.out.drew.alloc _) ne_qr g4
          obtain ⟨VY1, VY2, VY3⟩ := VY.facts
          obtain ⟨W1, hb1, g4, g5⟩ := grown_src (wr := wr) g4 g5 (by (repeat (first | (with_reducible exact Below.refl _ _) | (with_reducible assumption) | (with_reducible refine b_drew ?_) | (with_reducible refine b_drewN ?_ _) | (with_reducible refine b_alloc ?_ _) | ((with_reducible refine b_set ?_ ?_ _); rotate_left; (focus (first | omega | (simp; done) | (simp; omega) | (simp at *; omega)))) | (with_reducible refine b_call ?_ (by with_reducible assumption)))))
          refine wpAny_take (i := 8) (v := .pointer (some ⟨p, 0, none⟩)) rfl (by kernel_rfl) (by kernel_rfl) (by kernel_rfl) (fun _ _ _ h => h) (Or.inl ⟨by rfl, ?hx8⟩) ?rx8
          case hx8 =>
            intro w0
            go_simp
          case' rx8 =>
          (try dsimp only [Act.put, List.setIfInBounds_toArray, List.set_cons_zero, List.set_cons_succ])
          refine wpAny_take (i := 9) (v := .pointer (some ⟨p, 3, none⟩)) rfl (by kernel_rfl) (by kernel_rfl) (by kernel_rfl) (fun _ _ _ h => h) (Or.inl ⟨by rfl, ?hx9⟩) ?rx9
          case hx9 =>
            intro w0
            go_simp
          case' rx9 =>
          (try dsimp only [Act.put, List.setIfInBounds_toArray, List.set_cons_zero, List.set_cons_succ])
          refine wpAny_ready (rs := [10]) (by kernel_rfl) (by simp) ?_
          refine AllReady.cons (o := _) rfl (fun K hK => ?_) ?_
          ·
            go_simp
            refine hK _ _ ?_
            clear hK K
            (try dsimp only [Act.put, List.setIfInBounds_toArray, List.set_cons_zero, List.set_cons_succ])
            refine wpAny_done (by kernel_rfl) ?_ _
            exact HQ.out A5 c5 _ _ _ _ _ _ _ _ _ _ _ (fix_mid HVW.out HMm.out HOr.out HGG.out hB hb1 g1 g2 g3 g4 g5 VY)
          exact AllReady.nil
        exact AllReady.nil
      exact AllReady.nil
    exact AllReady.nil
  exact AllReady.nil
end Go.Proofs.Ytdjmaljldajpiaa
