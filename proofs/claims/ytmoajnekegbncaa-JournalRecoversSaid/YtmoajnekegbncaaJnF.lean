/-
  WHAT IS PROVED HERE: the contract of journal's Open. No condition but bounds that every machine's lengths meet.
-/
import Derived.Test.YtmoajnekegbncaaJnE
import Derived.Test.YtmoajnekegbncaaJnA
namespace Go.Proofs.Ytmoajnekegbncaa
set_option linter.unusedVariables false
open Go.ChangeShapes Go.WideShapes Go.ChangeAt Go.RowKit

/-- What Open returns: a new log with the records, or the error. -/
def OpenRet (w : World) (L : List Int) (e : Ending) (w' : World) : Prop :=
  ∃ xs er, Opens L xs er ∧ Below w.heap.size w w' ∧ ((er = 0 ∧ ∃ g F, e = .returned (.tuple #[.pointer (some ⟨g, 0, none⟩), .int .i64 0]) ∧ Lg w' F g xs ∧ ∀ k, F k → w.heap.size ≤ k) ∨ (er ≠ 0 ∧ e = .returned (.tuple #[.pointer none, .int .i64 er])))
theorem lg_new {w : World} {g : Nat} (V : Vr w g 51 #[.slice none 0 0, .slice none 0 0]) : Lg w (· = g) g [] :=
  ⟨0, none, 0, none, 0, ⟨rfl, V, by omega, by simp [maxLen], own_nil _ _ _ _, by simp, by simp [maxLen], own_nil _ _ _ _, rfl, fun k hk => (by cases hk), fun k hk => (by cases hk), fun k hk => (by cases hk), fun k hk => by subst hk; exact V.lt⟩⟩
theorem run_enter2 {P : Program} {f : FuncId} {fn : Func} {c : Code} (hf : P.funcs[f]? = some fn) (hname : (fn.name == "runtime.NumGoroutine") = false) (hb : fn.body = some c) (args : Array Value) (w : World) :
    (callFunc f args).run P w = .ok (.enter f args) w := by
  have h1 : fn.name ≠ "runtime.NumGoroutine" := by simpa using hname
  simp [callFunc, hf, h1, hb]
theorem b_call' {B : Nat} {a b c : World} {g : Nat} (h : Below B a b) (k : Only (· = g) b c) (hg : B ≤ g) (hB : B ≤ a.heap.size := by omega) : Below B a c :=
  h.trans (k.below (Nat.le_trans hB h.size) (fun i hi => by subst hi; exact hg))
/-- the number in cell b -/
def cellNat (w : World) (b : Nat) : Nat := match w.cell? ⟨b, 0, none⟩ with | some (.int _ i) => i.toNat | _ => 0
theorem cellNat_eq {w : World} {b p : Nat} (V : Vr w b 3 #[.int .i64 (p : Int)]) : cellNat w b = p := by
  unfold cellNat
  rw [V.cell 0]
  rfl
theorem framesI_ge : ∀ (l : List (List Int)), l.length ≤ (framesI l).length
  | [] => Nat.zero_le _
  | x :: l => by
    have := framesI_ge l
    have := frameL_bd x
    rw [framesI_cons, List.length_append, frameI_len, List.length_cons]
    omega
/-- The state of Open's loop: pre is read, at position p. -/
structure Op1 (w : World) (g : Nat) (A : Option Addr) (n c : Nat) (L : List Int) (wr : World) (pre : List (List Int)) (F : Nat → Prop) (p : Nat) : Prop where
  lg : Lg wr F g pre
  out : ∀ k, F k → k = g ∨ g + 2 < k
  vd : wr.cell? ⟨g + 1, 0, none⟩ = some (.slice A n c)
  vp : Vr wr (g + 2) 3 #[.int .i64 (p : Int)]
  b : Below w.heap.size w wr
  hp : p = (framesI pre).length
  hn : p ≤ n
  tk : L.take p = framesI pre
  op : ∀ xs e, Opens (L.drop p) xs e → Opens L (pre ++ xs) e
theorem Op1.size {w : World} {g : Nat} {A : Option Addr} {n c : Nat} {L : List Int} {wr : World} {pre : List (List Int)} {F : Nat → Prop} {p : Nat} (h : Op1 w g A n c L wr pre F p) : (framesI pre).length ≤ n ∧ pre.length ≤ n := by
  have h1 := framesI_ge pre
  have h2 := h.hp
  have h3 := h.hn
  omega
set_option maxHeartbeats 2000000 in
theorem open_any (A : Option Addr) (n c : Nat) (L : List Int) (hL : Bytes L) (w : World) (rd : Rd w w.heap.size 1 A n (L.map (Value.int .u8))) (hn : n ≤ c) (hc : c ≤ maxLen) (hm : n ≤ 1000000000) :
    Calls Try.prog 13 #[.slice A n c] w (OpenRet w L) := by
  have hl : L.length = n := by have := rd.1; simpa using this
  have HL := Lib.hid hl
  have RD := Lib.hid rd
  have HC := Lib.hid (And.intro hn hc)
  clear rd hl hn hc
  go_enter Try.func13, Try.ntmps13
  go_wp2_with fail
  refine (frames_any A n c _).mono ?_
  rintro e w1 ⟨rfl, hw1⟩
  obtain ⟨g, hg⟩ : ∃ g, w.heap.size = g := ⟨_, rfl⟩
  have H1 := Lib.hid (show Op1 w g A n c L w1 [] (· = g) 0 from by
    subst hw1
    refine ⟨lg_new ?_, fun k hk => .inl hk, ?_, ?_, by (repeat (first | (with_reducible exact Below.refl _ _) | (with_reducible assumption) | (with_reducible refine b_drew ?_) | (with_reducible refine b_drewN ?_ _) | (with_reducible refine b_alloc ?_ _) | ((with_reducible refine b_set ?_ ?_ _); rotate_left; (focus (first | omega | (simp; done) | (simp; omega) | (simp at *; omega)))) | (with_reducible refine b_call ?_ (by with_reducible assumption)))), by simp [framesI], by omega, by simp [framesI], fun xs e h => by simpa using h⟩
    · rw [← hg]
      exact ((Vr.new w _ _).alloc _).alloc _
    · have := ((Vr.new (w.alloc (.cells #[Value.slice none 0 0, Value.slice none 0 0] 51)) 27 #[.slice A n c]).alloc (.cells #[.int .i64 0] 3)).cell 0
      rw [World.size_alloc, hg] at this
      exact this
    · have := Vr.new ((w.alloc (.cells #[Value.slice none 0 0, Value.slice none 0 0] 51)).alloc (.cells #[.slice A n c] 27)) 3 #[.int .i64 0]
      rw [World.size_alloc, World.size_alloc, hg] at this
      exact this)
  simp only [World.size_alloc, hg]
  have HG := Lib.hid hg
  clear hw1 hg
  go_wp2
  go_loopw [6] (fun _ wr => ∃ pre F p, Hid (Op1 w g A n c L wr pre F p)) (fun _ wr => n - cellNat wr (g + 2))
  case atStart => exact ⟨[], _, 0, H1⟩
  case round =>
    clear H1
    obtain ⟨pre, F, p, HO⟩ := hrel
    obtain ⟨nd, Ad, cd, Bd, dd, hq⟩ := HO.out.lg
    have z0 := hq.V.cell 0
    have hnd : nd = p := by rw [← hq.hn, HO.out.hp]
    subst hnd
    have hlg := hq.lt g hq.fg
    have hpn := HO.out.hn
    clear hq
    have HME := Lib.hid (cellNat_eq HO.out.vp)
    by_cases hlt : nd < n
    · have hdec : decide ((nd : Int) < (n : Int)) = true := by rw [decide_eq_true_iff]; omega
      have hf := fun W => run_enter2 Try.func33 (by kernel_rfl) rfl #[.pointer (some ⟨g + 1, 0, none⟩), .pointer (some ⟨g + 1 + 1, 0, none⟩)] W
      go_wp2_with fail
      clear hf
      refine (next_any (g + 1) (g + 1 + 1) g A n c L nd hL wr (by have := RD.out.below HO.out.b (Nat.le_refl _); rw [HG.out] at this; exact this) (by omega) HO.out.vd HO.out.vp (by omega) hlt HC.out.1 HC.out.2 (by omega)).mono ?_
      rintro e w2 (⟨hst, rfl, hb2⟩ | ⟨hst, rfl, hb2⟩ | ⟨hst, rfl, hb2⟩ | ⟨x, m, A2, c2, hst, rfl, hc1, hc2, hrd, hon, hvp⟩)
      · have HS := Lib.hid hst
        have HB := Lib.hid hb2
        clear hst hb2
        go_wp2_with fail
        refine (is_any 25 25 true (by decide) _).mono ?_
        rintro e w_ ⟨rfl, rfl⟩
        go_wp2
        refine bodyPost_ret (v := .tuple #[.pointer (some ⟨g, 0, none⟩), .int .i64 0]) (by simp [results, Try.results13, go_sem]) rfl ?_
        refine ⟨pre ++ [], 0, HO.out.op _ _ (.torn HS.out), b_call HO.out.b HB.out, .inl ⟨rfl, g, F, rfl, ?_, fun k hk => ?_⟩⟩
        · rw [List.append_nil]
          exact HO.out.lg.below HB.out
        · rw [HG.out]
          have := HO.out.out k hk
          omega
      · have HS := Lib.hid hst
        have HB := Lib.hid hb2
        clear hst hb2
        go_wp2_with fail
        refine (is_any 8 25 false (by decide) _).mono ?_
        rintro e w_ ⟨rfl, rfl⟩
        go_wp2_with fail
        refine (is_any 8 0 false (by decide) _).mono ?_
        rintro e w_ ⟨rfl, rfl⟩
        go_wp2
        refine bodyPost_ret (v := .tuple #[.pointer none, .int .i64 8]) (by simp [results, Try.results13, go_sem]) rfl ?_
        exact ⟨pre ++ [], 8, HO.out.op _ _ (.form HS.out), b_call HO.out.b HB.out, .inr ⟨by decide, rfl⟩⟩
      · have HS := Lib.hid hst
        have HB := Lib.hid hb2
        clear hst hb2
        go_wp2_with fail
        refine (is_any 26 25 false (by decide) _).mono ?_
        rintro e w_ ⟨rfl, rfl⟩
        go_wp2_with fail
        refine (is_any 26 0 false (by decide) _).mono ?_
        rintro e w_ ⟨rfl, rfl⟩
        go_wp2
        refine bodyPost_ret (v := .tuple #[.pointer none, .int .i64 26]) (by simp [results, Try.results13, go_sem]) rfl ?_
        exact ⟨pre ++ [], 26, HO.out.op _ _ (.sum HS.out), b_call HO.out.b HB.out, .inr ⟨by decide, rfl⟩⟩
      · have hsr := step_rec (hL.drop nd) hst
        have HS := Lib.hid hst
        have HSR := Lib.hid hsr
        obtain ⟨_, hx4, hmf, hmn⟩ := hsr
        rw [List.length_drop, HL.out] at hmn
        have HMF := Lib.hid hmf
        have hxb := Lib.hid (show Bytes x from fun y hy => by
          have h : y ∈ frameI x := by simp [frameI, hy]
          rw [← HSR.out.1] at h
          exact hL.drop nd y (List.mem_of_mem_take h))
        have HL2 := Lib.hid (HO.out.lg.mv0 hon (fun k hk e => by have := HO.out.out k hk; omega))
        have HR2 := Lib.hid (show RdF w2 F A2 x.length x from ⟨hrd.more (by have := hon.size; omega), fun b o e hne hF => by
          obtain ⟨b', o', e', hb', _⟩ := hrd.2 (by simpa using hne)
          rw [e] at e'
          injection e' with e'
          injection e' with e1 e2
          have := HO.out.out b hF
          omega⟩)
        have HB2 := Lib.hid (show Below w.heap.size w w2 from b_call' HO.out.b hon (by rw [HG.out]; omega))
        have HV2 := Lib.hid hvp
        have VD2 := Lib.hid (show w2.cell? ⟨g + 1, 0, none⟩ = some (.slice A n c) from (World.cell?_of_block (w := wr) (a := ⟨g + 1, 0, none⟩) (hon.heap (World.block_lt_of_cell? wr _ HO.out.vd) (by show ¬ g + 1 = g + 1 + 1; omega))).trans HO.out.vd)
        have hsz := HO.out.size
        have hgw := hon.size
        have hl1 := World.block_lt_of_cell? w2 _ VD2.out
        have hl2 := HV2.out.lt
        simp only at hl1
        clear hst hrd hon hvp hmf
        go_wp2_with fail
        refine (is_any 0 25 false (by decide) _).mono ?_
        rintro e w_ ⟨rfl, rfl⟩
        go_wp2_with fail
        refine (is_any 0 0 true (by decide) _).mono ?_
        rintro e w_ ⟨rfl, rfl⟩
        go_wp2_with fail
        refine (add_any F g pre A2 c2 x _ HL2.out hxb.out HR2.out hx4 (by omega) (by omega)).mono ?_
        rintro e w3 ⟨rfl, F', hlg3, hmv⟩
        have HLG3 := Lib.hid hlg3
        have HMV := Lib.hid hmv
        have HV3 := Lib.hid (HV2.out.only hmv.2 (fun hF => by have := HO.out.out _ hF; omega))
        clear hlg3 hmv
        go_wp2
        go_roundw
        case rel =>
          refine ⟨pre ++ [x], F', nd + m, Lib.hid ⟨HLG3.out, fun k hk => ?_, ?_, HV3.out, ?_, ?_, by omega, ?_, fun xs e h => ?_⟩⟩
          · rcases HMV.out.1 k hk with h | h
            · exact HO.out.out k h
            · omega
          · exact (World.cell?_of_block (w := w2) (a := ⟨g + 1, 0, none⟩) (HMV.out.2.heap hl1 (fun hF => by have := HO.out.out (g + 1) hF; omega))).trans VD2.out
          · exact HB2.out.trans (HMV.out.2.below (by have := HB2.out.size; omega) (fun k hk => by rw [HG.out]; have := HO.out.out k hk; omega))
          · rw [framesI_append, framesI_one, List.length_append, frameI_len, ← HO.out.hp, HMF.out]
          · rw [framesI_append, framesI_one, List.take_add, HSR.out.1, HO.out.tk]
          · rw [List.append_assoc]
            refine HO.out.op _ _ (.one HS.out ?_)
            rw [List.drop_drop]
            exact h
        case measure =>
          have h1 := HME.out
          have h2 := cellNat_eq HV3.out
          have h3 := frameL_bd x
          have h4 := HMF.out
          show n - cellNat w3 (g + 2) < n - cellNat wr (g + 2)
          rw [h1, h2]
          omega
    · have hdec : decide ((nd : Int) < (n : Int)) = false := by rw [decide_eq_false_iff_not]; omega
      go_wp2
      refine bodyPost_ret (v := .tuple #[.pointer (some ⟨g, 0, none⟩), .int .i64 0]) (by simp [results, Try.results13, go_sem]) rfl ?_
      refine ⟨pre ++ [], 0, HO.out.op _ _ ?_, HO.out.b, .inl ⟨rfl, g, F, rfl, ?_, fun k hk => ?_⟩⟩
      · have : L.drop nd = [] := List.drop_eq_nil_of_le (by rw [HL.out]; omega)
        rw [this]
        exact .nil
      · rw [List.append_nil]
        exact HO.out.lg
      · rw [HG.out]
        have := HO.out.out k hk
        omega
end Go.Proofs.Ytmoajnekegbncaa
