/-
  WHAT IS PROVED HERE: what package inputqueue's Offer makes of an offer that it accepts. No condition but that the queue lies in memory as stated, and that the numbers are a machine's.
-/
import Derived.Test.YtdjmaljldajpiaaIqC
import Derived.StillTailTactics
namespace Go.Proofs.Ytdjmaljldajpiaa
set_option linter.unusedVariables false
open Go.ChangeShapes Go.WideShapes Go.ChangeAt Go.RowKit
open Go.Maps (Keyed)

theorem MapV.obj {P : Program} {w : World} {k : TypeId} {b n : Nat} {F : Lit → Option Value} (h : MapV w P k b n F) : ∃ es clock, w.heap[b]? = some (.map es clock) := by
  obtain ⟨D, ⟨es, clock, h1, _⟩, _⟩ := h
  exact ⟨es, clock, h1⟩
theorem Vr.not_map {P : Program} {w : World} {k t : TypeId} {p b n : Nat} {cs : Array Value} {F : Lit → Option Value} (hv : Vr w p t cs) (h : MapV w P k b n F) : p ≠ b := by
  rintro rfl
  obtain ⟨es, clock, e⟩ := h.obj
  unfold Vr at hv
  rw [hv] at e
  cases e
theorem own_not_map {P : Program} {w : World} {k e : TypeId} {b n base sz m : Nat} {v : Value} {xs : List Value} {F : Lit → Option Value} (ho : w.ownsRow base e sz v m xs) (h : MapV w P k b n F) : ∀ j, v.ownBlock = some j → j ≠ b := by
  intro j hj
  rcases ho.2 with ⟨rfl, _⟩ | ⟨g, cap, cur, rfl, _, hh, _⟩
  · cases hj
  · injection hj with hj
    subst hj
    rintro rfl
    obtain ⟨es, clock, e⟩ := h.obj
    rw [hh] at e
    cases e
/-- The queue behind a store into its map. -/
theorem Iqu.put {w w' : World} {p b : Nat} {g : Option Nat} {k wt nm nm' : Nat} {pd pd' : Nat → Nat → Option Inp} {rows : List RowV} {F' : Lit → Option Value} (h : Iqu w p b g k wt nm pd rows) (hM : MapV w' Try.prog 3 b nm' F') (ho : Only (· = b) w w') (hF : ∀ t : Nat, t ≤ 10000 → (F' (.int .i64 t)).getD noSlots = .agg (slotsC (pd' t)).toArray) : Iqu w' p b g k wt nm' pd' rows := by
  obtain ⟨A, c, F, h1, h2, h3, h4, h5, h6, h7⟩ := h
  exact ⟨A, c, F', h1.only ho (h1.not_map h5), h2, h3, h4, hM, hF, own_same h7 fun j hj => ho.heap (h7.lt j hj).2 (own_not_map h7 h5 j hj)⟩
theorem wpStill_load_mid {P : Program} {ops : Array Oper} {w : World} {Q : Act → Prop} {a : Act} {o : Oper} {rest : List Oper} (hgd : o.guard = none) (ty : TypeId) (x : Operand) (ho : o.op = .load ty x)
    (b off : Nat) (hx : a.eval x = .pointer (some ⟨b, off, none⟩)) (cs : List Value) (d : TypeDesc) (hc : w.rangeAt b off cs) (hu : P.underlying ty = some d) (hd : d.isRow = true) (hi : (P.info? ty).map (·.size) = some cs.length)
    (h : wpStill P ops w Q rest (a.put o.dst (.agg cs.toArray))) : wpStill P ops w Q (o :: rest) a := by
  unfold wpStill
  rw [if_pos (by simp [Region.wanted, hgd])]
  unfold Oper.still execOp
  simp only [ho, hx, Instr.loadAt, Instr.sureAddr, Sem.run_bind, Sem.run_pure, Result.andThen_ok, run_loadVar_mid w b off ty cs d hc hu hd hi]
  exact ⟨rfl, h⟩
section
variable (p b : Nat) (g : Option Nat) (k wt nm : Nat) (pd : Nat → Nat → Option Inp) (rows : List RowV) (now : Int) (P T : Nat) (x y z : Int) (w : World)
set_option maxRecDepth 100000 in
set_option maxHeartbeats 4000000 in
theorem offer_ok (h : Iqu w p b g k wt nm pd rows) (hn : I64 now) (hP : P < k) (hk : k ≤ 8) (hT : T < 6000) (hTn : (T : Int) - 8 ≤ now) (hTr : rows.length ≤ T) (hv : Val (x, y, z)) (hd : pd T P = none) (hnm : nm ≤ 1000000) :
    Calls Try.prog 16 #[.pointer (some ⟨p, 0, none⟩), .int .i64 now, .int .i64 (P : Int), .int .i64 (T : Int), .agg #[.int .i64 x, .int .i64 y, .int .i64 z]] w fun e w' => e = .returned (.int .i64 0) ∧ Iqu w' p b g k wt (nm + 1) (offerP pd P T (x, y, z)) rows ∧ Only (· = b) w w' := by
  have HQ := Lib.hid h
  obtain ⟨A, c, h0, h1, h2, h3, h4, h5, _⟩ := h.cells
  have hpl := h.lt p (.inl rfl)
  obtain ⟨_, _, F, _, _, _, _, hM, hF, _⟩ := h
  have HM := Lib.hid hM
  have HF := Lib.hid (hF T (by omega))
  have HPW := Lib.hid hF
  unfold I64 at hn
  have hs0 : (slotsC (pd T))[P * 4]? = some (.int .i64 0) := by have := slotsC_get (pd T) (i := P) (j := 0) (by omega) (by omega); rw [hd] at this; exact this
  have hs1 : (slotsC (pd T))[P * 4 + 1]? = some (.int .i64 0) := by have := slotsC_get (pd T) (i := P) (j := 1) (by omega) (by omega); rw [hd] at this; exact this
  have hs2 : (slotsC (pd T))[P * 4 + 2]? = some (.int .i64 0) := by have := slotsC_get (pd T) (i := P) (j := 2) (by omega) (by omega); rw [hd] at this; exact this
  have hs3 : (slotsC (pd T))[P * 4 + 3]? = some (.bool false) := by have := slotsC_get (pd T) (i := P) (j := 3) (by omega) (by omega); rw [hd] at this; exact this
  have hv0 := vcode_yes hv
  have d1 : decide ((P : Int) < 0) = false := by simp
  have d2 : decide (k ≤ P) = false := by simp; omega
  have d3 : decide ((T : Int) < 0) = false := by simp
  have d4 : decide (6000 ≤ (T : Int)) = false := by simp; omega
  have d4' : decide (6000 ≤ T) = false := by simp; omega
  have d5 : decide (now < (T : Int) - 8) = false := by simp; omega
  have d6 : decide (T < rows.length) = false := by simp; omega
  clear hM hF hd hv
  generalize rows.length = n at *
  go_enter Try.func16, Try.ntmps16
  go_wp2_with fail
  refine (validate3 _ _ _ _).mono ?_
  rintro e w2 ⟨rfl, hb2⟩
  obtain ⟨bc2, bf2⟩ := bcell hb2
  have hz2 := hb2.size
  obtain ⟨l9, c9, f9⟩ := ((Vr.new w 34 #[.int .i64 x, .int .i64 y, .int .i64 z]).call hb2).facts
  have HM2 := Lib.hid ((HM.out.alloc (.cells #[.int .i64 x, .int .i64 y, .int .i64 z] 34)).call hb2)
  go_wp2_with (first
    | (at_lookup; refine wpList_lookV _ rfl (.tmp 50) (.tmp 51) 59 rfl keyInt Try.underlying59 (zeroSlots _) rfl HM2.out rfl (keyN (by omega)) HF.out ?_)
    | (refine wpList_store_new rfl 69 (.tmp 12) (.tmp 52) rfl _ (slotsC (pd T)).toArray rfl rfl (by rw [List.size_toArray, slotsC_len]; exact infoSlots) (by simp [slotsC_len]) (all_oneCell_toArray (slotsC_cell _)) ?_))
  refine name_world ?_
  intro X hX
  have hB2X : Below w2.heap.size w2 X := by rw [hX]; exact b_alloc (Below.refl _ _) _
  have VX : Vr X w2.heap.size 69 (slotsC (offerP pd P T (x, y, z) T)).toArray := by
    have e : slotsC (offerP pd P T (x, y, z) T) = ((((slotsC (pd T)).set (P * 4) (.int .i64 x)).set (P * 4 + 1) (.int .i64 y)).set (P * 4 + 2) (.int .i64 z)).set (P * 4 + 3) (.bool true) := by
      rw [slots_put (pd T) (by omega) x y z]
      congr 1
      funext q
      unfold offerP
      simp
    rw [hX, e]
    simpa using Vr.new w2 69 (((((slotsC (pd T)).set (P * 4) (.int .i64 x)).set (P * 4 + 1) (.int .i64 y)).set (P * 4 + 2) (.int .i64 z)).set (P * 4 + 3) (.bool true)).toArray
  have hBw : Below w.heap.size w w2 := by (repeat (first | (with_reducible exact Below.refl _ _) | (with_reducible assumption) | (with_reducible refine b_drew ?_) | (with_reducible refine b_drewN ?_ _) | (with_reducible refine b_alloc ?_ _) | ((with_reducible refine b_set ?_ ?_ _); rotate_left; (focus (first | omega | (simp; done) | (simp; omega) | (simp at *; omega)))) | (with_reducible refine b_call ?_ (by with_reducible assumption))))
  have hBX : Below w.heap.size w X := hBw.trans (hB2X.mono hBw.size)
  have HMX := Lib.hid (show MapV X.drew Try.prog 3 b nm F from (HM2.out.call hB2X).drew)
  have hcp : X.cell? ⟨p, 2, none⟩ = some (.map (some b)) := cell_keep hBX h2
  have HRG := Lib.hid (show X.drew.rangeAt w2.heap.size 0 (slotsC (offerP pd P T (x, y, z) T)) from fun j v hv => by
    show X.cell? _ = _
    rw [VX.cell, Nat.zero_add]
    simpa using hv)
  clear hX VX hb2 hz2 bc2 bf2 l9 c9 f9 h0 h1 h2 h3 hs0 hs1 hs2 hs3 d1 d2 d3 d4 d4' d5 d6
  refine wp_region_still_tail 6 (by kernel_rfl) (by kernel_rfl) ?_
  simp only [List.take_succ_cons, List.take_zero, List.drop_succ_cons, List.drop_zero]
  still_step
  still_step
  still_step
  still_step
  still_step
  refine wpStill_load_mid rfl 69 (.tmp 12) rfl w2.heap.size 0 rfl _ _ HRG.out Try.underlying69 rfl (by rw [slotsC_len]; exact infoSlots) ?_
  refine wpStill_nil ?_
  refine wpList_storeV _ rfl (.tmp 64) (.tmp 65) (.tmp 66) 59 rfl keyInt Try.underlying59 rfl HMX.out (by unfold maxLen; omega) rfl rfl (keyN (k := T) (by omega)) ?_
  intro w3 m1 m2
  have HFin := Lib.hid (And.intro m1 m2)
  clear m1 m2
  go_wp2
  go_ret
  have OF := (Only.of_below hBX.drew (· = b) (fun j h1 h2 => by omega)).trans HFin.out.2
  refine ⟨rfl, HQ.out.put HFin.out.1 OF fun t ht => ?_, OF⟩
  by_cases e : t = T
  · subst e
    rw [putF_same]
    rfl
  · rw [putF_other _ _ (by intro h; injection h with _ h; omega), HPW.out t ht]
    congr 2
    congr 1
    funext q
    unfold offerP
    rw [if_neg (by simp; omega)]
end
end Go.Proofs.Ytdjmaljldajpiaa
