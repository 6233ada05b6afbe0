/-
  WHAT IS PROVED HERE: the contract of package merkle's Prove. No condition but that the tree lies in memory.
-/
import Derived.Test.YtgelhcgaacnjcaaMkF
namespace Go.Proofs.Ytgelhcgaacnjcaa
set_option linter.unusedVariables false
open Go.RowKit Go.Shelf

attribute [local go_sem] Oper.semAt_some

/-- the hashes beside a path -/
def prfV (cs : List Int) (i : Nat) (ls : List Nat) : List Int := ls.map fun l => nV cs l (sib (i / 2 ^ l))
theorem prfV_snoc (cs : List Int) (i : Nat) (ls : List Nat) (l : Nat) : prfV cs i (ls ++ [l]) = prfV cs i ls ++ [nV cs l (sib (i / 2 ^ l))] := by simp [prfV]
theorem prfV_len (cs : List Int) (i : Nat) (ls : List Nat) : (prfV cs i ls).length = ls.length := by simp [prfV]
/-- A leaf with its proof comes back, in new memory. -/
def RetLf (w : World) (ix v : Int) (prf : List Int) (e : Ending) (w' : World) : Prop :=
  ∃ A c, e = .returned (.agg #[.int .i64 ix, .int .i64 v, .slice A prf.length c]) ∧ w'.ownsRow w.heap.size 22 1 (.slice A prf.length c) prf.length (prf.map (Value.int .u64)) ∧ prf.length ≤ c ∧ c ≤ maxLen ∧ Below w.heap.size w w'
/-- a row that is owned, and the variable that holds it -/
def HoldS (W : World) (B bp : Nat) (R : Nat → Prop) (xs : List Int) : Prop := ∃ A c, (∀ k, (Value.slice A xs.length c).ownBlock = some k → R k) ∧ Vr W bp 23 #[.slice A xs.length c] ∧ W.ownsRow B 22 1 (.slice A xs.length c) xs.length (xs.map (Value.int .u64)) ∧ xs.length ≤ c ∧ c ≤ maxLen
theorem own_cells {W : World} {B : Nat} {e : TypeId} {sz : Nat} {v : Value} {n : Nat} {xs : List Value} (h : W.ownsRow B e sz v n xs) {k : Nat} (hk : v.ownBlock = some k) : B ≤ k ∧ ∃ cur, W.heap[k]? = some (.cells cur e (0, 0)) := by
  rcases h.2 with ⟨rfl, _⟩ | ⟨g, cap, cur, rfl, hg, hgb, _⟩
  · simp [Value.ownBlock] at hk
  · obtain rfl : g = k := by simpa [Value.ownBlock] using hk
    exact ⟨hg, cur, hgb⟩
theorem own_grown {W W' : World} {row : Option Nat} {B : Nat} {e : TypeId} {sz : Nat} {v : Value} {n : Nat} {xs : List Value} (h : W.ownsRow B e sz v n xs) (hg : W.grownBy W' row) (hr : ∀ r, row = some r → ∃ o : Obj, W.heap[r]? = some o ∧ o.isCells = false) : W'.ownsRow B e sz v n xs := by
  refine h.kept hg ?_
  rcases hv : v.ownBlock with _ | k
  · exact .inl rfl
  · refine .inr fun e' => ?_
    obtain ⟨_, cur, hc⟩ := own_cells h hv
    obtain ⟨o, ho, hn⟩ := hr k e'.symm
    rw [hc] at ho
    cases ho
    cases hn
theorem ownFrom_holdS {β : Type} (B' B bp : Nat) (R : Nat → Prop) (f : β → List Int) : OwnFrom B' (fun s W => HoldS W B bp R (f s)) := by
  rintro s W W' row ⟨A, c, hR, hv, ho, h1, h2⟩ hg hr
  exact ⟨A, c, hR, ownFrom_vr B' bp _ (fun (_ : Unit) => #[.slice A (f s).length c]) () W W' row hv hg hr, own_grown ho hg (fun r e => (hr r e).2), h1, h2⟩
theorem own_only {W W' : World} {F : Nat → Prop} {B : Nat} {e : TypeId} {sz : Nat} {v : Value} {n : Nat} {xs : List Value} (h : W.ownsRow B e sz v n xs) (hO : Only F W W') (hF : ∀ k, v.ownBlock = some k → ¬ F k) : W'.ownsRow B e sz v n xs := by
  refine ⟨h.1, ?_⟩
  rcases h.2 with h2 | ⟨g, cap, cur, rfl, hg, hgb, h3⟩
  · exact .inl h2
  · refine .inr ⟨g, cap, cur, rfl, hg, ?_, h3⟩
    rw [hO.heap (Array.getElem?_eq_some_iff.1 hgb).1 (hF g (by simp [Value.ownBlock]))]
    exact hgb
theorem keepsFrom_cells {B : Nat} {F : Nat → Prop} {W W' : World} (h : Only F W W') (hF : ∀ k, F k → ∃ cs t, W.heap[k]? = some (.cells cs t (0, 0))) : KeepsFrom B W W' :=
  ⟨h.size, fun k o hB hk hc => (h.heap (Array.getElem?_eq_some_iff.1 hk).1 (fun hf => by
    obtain ⟨cs, t, he⟩ := hF k hf
    rw [he] at hk
    cases hk
    cases hc)).trans hk⟩
theorem run_mk0 {P : Program} {t e : TypeId} {z : Value} {size bytes : Nat} (ht : P.underlying t = some (.slice e)) (h : (P.info? e).map (fun i => (i.zero, i.size, i.bytes)) = some (some z, size, bytes)) (n : Nat) (hb : n * bytes ≤ 281474976710656) (hn : n ≤ 281474976710656) (w : World) :
    (Instr.makeSlice t (.int .i64 0) (.int .i64 (n : Int))).run P w = .ok (.slice (some ⟨w.heap.size, 0, none⟩) 0 n) (w.alloc (.cells (madeCells z.cells (n * size)) e)) := by
  obtain ⟨i, hi, h0, h1, h2⟩ := info_parts h
  have hb' : (i.bytes : Int) * (n : Int) ≤ 281474976710656 := by
    subst h2
    have h : ((n * i.bytes : Nat) : Int) ≤ 281474976710656 := by omega
    rwa [Int.natCast_mul, Int.mul_comm] at h
  have hr := run_make (P := P) w t e i z ht hi h0 .i64 .i64 0 n (by omega) (by omega) hb' (by omega)
  simp only [Int.toNat_natCast, h1] at hr
  exact hr

set_option maxHeartbeats 4000000 in
theorem rd_vr {w : World} {b m sz : Nat} {t : TypeId} {cs : Array Value} (h : Vr w b t cs) (hs : cs.size = m * sz) : Rd w w.heap.size sz (some ⟨b, 0, none⟩) m cs.toList :=
  ⟨by simpa using hs, fun _ => ⟨b, 0, rfl, h.lt, fun j u hu => by rw [Nat.zero_add, h.cell]; simpa using hu⟩⟩
theorem vr_set3 {w : World} {g : Nat} {T : TypeId} {a b c : Value} (h : Vr w g T #[a, b, c]) (a' b' c' : Value) : Vr (((w.setCell ⟨g, 0, none⟩ a').setCell ⟨g, 1, none⟩ b').setCell ⟨g, 2, none⟩ c') g T #[a', b', c'] := by
  have := ((h.set 0 a').set 1 b').set 2 c'
  simpa using this
theorem step_appA {P : Program} (w : World) {o : Oper} (d : Tmp) (hd : o.dst = some d) {a : Go.Act} {K : Go.Act → World → Prop} {Q : Exit → Go.Act → World → Prop} {C E : Prop} [Decidable C] (hC : C) (s x : Operand) {t e : TypeId} {size bytes : Nat} (T : SlT P t e size bytes)
    (ho : o.op = .call { callee := .builtin .append, args := #[s, x], argTypes := #[t, t] }) {base : Nat} {v : Value} {n : Nat} {xs : List Value} (hs : a.eval s = v) (hown : w.ownsRow base e size v n xs)
    {B : Nat} {A : Option Addr} {m c : Nat} {news : List Value} (hx : a.eval x = .slice A m c) (hr : Rd w B size A m news) (h1 : ∀ u ∈ news, u.oneCell' = true)
    (N : Nat) (hN : n + m = N) (h63 : N ≤ maxLen) (hbytes : N * bytes ≤ 140737488355328) (hbase : base ≤ w.heap.size)
    (h : ∀ A' c' w', N ≤ c' → c' ≤ maxLen → w'.ownsRow base e size (.slice A' N c') N (xs ++ news) → w.grownBy w' v.ownBlock → ((Value.slice A' N c').ownBlock = v.ownBlock ∨ (Value.slice A' N c').ownBlock = some w.heap.size) → K (a.put (some d) (.slice A' N c')) w') : if C then o.wp P a w K Q else E := by
  rw [if_pos hC]
  refine wp_app w s x T ho hs hown hx hr h1 N hN h63 hbytes hbase ?_
  rw [hd]
  exact h
theorem step_if {c A E : Prop} [Decidable c] (hc : c) (h : A) : if c then A else E := by rw [if_pos hc]; exact h
theorem own_drew {w : World} {B : Nat} {e : TypeId} {sz : Nat} {v : Value} {n : Nat} {xs : List Value} (h : w.ownsRow B e sz v n xs) : w.drew.ownsRow B e sz v n xs := h
set_option maxHeartbeats 1000000 in
theorem prove_no (g bc bn : Nat) (cs : List Int) (f : Nat → Int) (i : Int) (w : World) (H : Tr w g bc bn cs f) (hi : ¬ (0 ≤ i ∧ i < (cs.length : Int))) :
    Calls Try.prog 20 #[.pointer (some ⟨g, 0, none⟩), .int .i64 i] w (RetLf w 0 0 []) := by
  have HH := Lib.hid H
  have HD := Lib.hid (decide_eq_false hi)
  clear hi H
  go_enter Try.func20, Try.ntmps20
  go_wp2_with fail
  refine (thas_any i ((HH.out.call (b_alloc (Below.refl _ _) _)).call (b_alloc (Below.refl _ _) _))).mono ?_
  rintro e w_ ⟨rfl, rfl⟩
  rw [HD.out]
  go_wp2
  refine bodyPost_ret (v := .agg #[.int .i64 0, .int .i64 0, .slice none 0 0]) (by simp [results, Try.results20, go_sem]) rfl ?_
  exact ⟨none, 0, rfl, own_nil _ _ _ _, by simp, by simp [maxLen], by (repeat (first | (with_reducible exact Below.refl _ _) | (with_reducible assumption) | (with_reducible refine b_drew ?_) | (with_reducible refine b_drewN ?_ _) | (with_reducible refine b_alloc ?_ _) | ((with_reducible refine b_set ?_ ?_ _); rotate_left; (focus (first | omega | (simp; done) | (simp; omega) | (simp at *; omega)))) | (with_reducible refine b_call ?_ (by with_reducible assumption))))⟩
set_option maxHeartbeats 2000000 in
set_option maxRecDepth 100000 in
theorem prove_in (g bc bn : Nat) (cs : List Int) (f : Nat → Int) (i : Nat) (W0 : World) (H : Tr W0 g bc bn cs f) (hi : i < cs.length) :
    CallsIn Fence.wide 3 Try.prog 20 #[.pointer (some ⟨g, 0, none⟩), .int .i64 (i : Int)] W0 (RetLf W0 i cs[i] (prfV cs i (List.range (hgt cs.length)))) := by
  have h10 := H.h10
  obtain ⟨q, hq⟩ : ∃ q, hgt cs.length = q := ⟨_, rfl⟩
  rw [hq] at h10 ⊢
  have HQ := Lib.hid hq
  have HH := Lib.hid H
  have hsm := H.sm
  have HD := Lib.hid (show decide (0 ≤ (i : Int) ∧ (i : Int) < (cs.length : Int)) = true from by simp; omega)
  have V := H.V
  rw [hq] at V
  have HV := Lib.hid V
  have HG := Lib.hid V.lt
  have M2 := Lib.hid (fun W => run_mk0 (P := Try.prog) (z := .int .u64 0) (size := 1) (bytes := 8) Try.underlying23 (by kernel_rfl) q (by omega) (by omega) W)
  clear H V hq
  refine callsIn_of_wp_marks Try.func20 rfl trivial ?_ rfl
  simp only [Try.ntmps20, List.size_toArray, List.length_cons, List.length_nil, Nat.reduceAdd, Nat.reduceSub, Array.replicate_succ, Array.replicate_zero, List.push_toArray, List.append_toArray, List.nil_append, List.cons_append]
  gi_wp2_with fail
  refine ⟨trivial, (callsIn_wide.2 (thas_any (i : Int) ((HH.out.call (b_alloc (Below.refl _ _) _)).call (b_alloc (Below.refl _ _) _)))).mono ?_⟩
  rintro e w_ ⟨rfl, rfl⟩
  rw [HD.out]
  have z0 : W0.cell? ⟨g, 0, none⟩ = some (.int .i64 q) := HV.out.cell 0
  have hg := HG.out
  have m := M2.out
  have hg1 : g < W0.heap.size + 1 := by omega
  have hg2 : g < W0.heap.size + 1 + 1 := by omega
  have hg3 : g < W0.heap.size + 1 + 1 + 1 := by omega
  gi_wp2_with fail
  clear m hg1 hg2 hg3
  refine ⟨trivial, (path_make Fence.wide _ trivial rfl i q _).mono ?_⟩
  rintro e w2 ⟨rfl, rfl⟩
  gi_wp2_with fail
  refine name_in ?_
  intro X hX
  obtain ⟨B, hB⟩ : ∃ b, W0.heap.size = b := ⟨_, rfl⟩
  have V2 : Vr X B 35 #[.pointer (some ⟨g, 0, none⟩)] := by rw [hX, ← hB]; exact (((((Vr.new W0 _ _).alloc _).alloc _).alloc _).alloc _).alloc _
  have V4 : Vr X (B + 1) 25 #[.int .i64 0, .int .i64 0, .slice none 0 0] := by rw [hX, ← hB]; exact ((((vr_new2 W0 _ _ _).alloc _).alloc _).alloc _).alloc _
  have VR : Vr X (B + 1 + 1) 22 (madeCells #[Value.int .u64 0] q) := by rw [hX, ← hB]; exact (((vr_new3 W0 _ _ _ _).alloc _).alloc _).alloc _
  have VB : Vr X (B + 1 + 1 + 1) 23 #[.slice (some ⟨B + 1 + 1, 0, none⟩) 0 q] := by rw [hX, ← hB]; exact ((vr_new4 W0 _ _ _ _ _).alloc _).alloc _
  have VI : Vr X (B + 1 + 1 + 1 + 1) 3 #[.int .i64 i] := by rw [hX, ← hB]; exact (vr_new5 W0 _ _ _ _ _ _).alloc _
  have VQ : Vr X (B + 1 + 1 + 1 + 1 + 1) 3 #[.int .i64 q] := by rw [hX, ← hB]; exact vr_new6 W0 _ _ _ _ _ _ _
  have hBX : Below W0.heap.size W0 X := by rw [hX]; (repeat (first | (with_reducible exact Below.refl _ _) | (with_reducible assumption) | (with_reducible refine b_drew ?_) | (with_reducible refine b_drewN ?_ _) | (with_reducible refine b_alloc ?_ _) | ((with_reducible refine b_set ?_ ?_ _); rotate_left; (focus (first | omega | (simp; done) | (simp; omega) | (simp at *; omega)))) | (with_reducible refine b_call ?_ (by with_reducible assumption))))
  have hXs : X.heap.size = B + 1 + 1 + 1 + 1 + 1 + 1 := by rw [hX, ← hB]; simp
  have HT := Lib.hid (HH.out.call hBX)
  have HBX := Lib.hid hBX
  have HTF := Lib.hid (show ∀ k, TF g bc bn k → k < B from fun k hk => by rw [← hB]; exact HH.out.lt hk)
  have HV2 := Lib.hid V2
  have HV4 := Lib.hid V4
  have HXs := Lib.hid hXs
  have HB0 := Lib.hid hB
  rw [hB]
  have h0 : HoldS X B (B + 1 + 1 + 1) (fun k => k = B + 1 + 1 ∨ X.heap.size ≤ k) [] := ⟨_, q, fun k e => .inl (by simpa [Value.ownBlock] using e.symm), VB, own_shut (by omega) VR (by simp) (by simp) (by simp) (by unfold maxLen; omega) (by rw [size_madeCells]; simp), by simp, by unfold maxLen; omega⟩
  clear hX hB V2 V4 VR VB hBX HH HV M2 hg z0
  refine wp_rf (w := X) (T := 64) (sl := 6) rfl (enters_of Try.func49 (by kernel_rfl) rfl) (path_stops Fence.wide 2 trivial rfl (by omega) (B + 1 + 1 + 1 + 1 + 1) (B + 1 + 1 + 1 + 1) i q (by omega) (by omega) X VQ.lt VI.lt (VQ.cell 0) (VI.cell 0)) VQ.lt VI.lt
    (fun pre W => Only (fun k => k = B + 1 + 1 + 1 ∨ k = B + 1 + 1) X W ∧ HoldS W B (B + 1 + 1 + 1) (fun k => k = B + 1 + 1 ∨ X.heap.size ≤ k) (prfV cs i (lvs pre))) ((ownFrom_only (Nat.le_refl _)).and (ownFrom_holdS _ _ _ _ (fun pre => prfV cs i (lvs pre)))) ⟨Only.refl _ _, h0⟩ (fun _ _ h => h.1.size) (fun x => #[.int .i64 (x.1 : Nat), .int .i64 ((i / 2 ^ x.1 : Nat) : Int)]) ?assign ?body ?done
  case assign =>
    intro l x W K hK
    unfold plv at hK ⊢
    gi_wp2
    exact hK
  case body =>
    clear h0 VI VQ
    rintro l pre x gb W hg ⟨hO, A, c, hR, hV, hown, hc1, hc2⟩ hVg hlen
    unfold plv
    simp only [List.setIfInBounds_toArray, List.set_cons_zero, List.set_cons_succ]
    have hx : x.1 < q := x.2
    have hsz := hO.size
    have hXq := HXs.out
    obtain ⟨m, hm⟩ : ∃ m, (prfV cs i (lvs pre)).length = m := ⟨_, rfl⟩
    have hmq : m ≤ q := by rw [← hm, prfV_len]; simp only [lvs, List.length_map]; omega
    have HPH := Lib.hid (prfV_snoc cs i (lvs pre) x.1)
    rw [← lvs_snoc] at HPH
    obtain ⟨lv, hlv⟩ : ∃ y : Nat, x.1 = y := ⟨_, rfl⟩
    obtain ⟨k, hk⟩ : ∃ y : Nat, i / 2 ^ lv = y := ⟨_, rfl⟩
    obtain ⟨s, hs⟩ : ∃ y : Nat, sib k = y := ⟨_, rfl⟩
    obtain ⟨p, hp⟩ : ∃ y, nV cs lv s = y := ⟨_, rfl⟩
    obtain ⟨T, hT⟩ : ∃ y : Nat, 2 ^ (q - lv) + s = y := ⟨_, rfl⟩
    have hkl : k < 2 ^ (q - lv) := by rw [← hk]; exact shift_lt (by have := hgt_ge cs.length; rw [HQ.out] at this; omega) (by omega)
    have hsl : s < 2 ^ (q - lv) := by
      rw [← hs]
      rw [show q - lv = (q - lv - 1) + 1 from by omega] at hkl ⊢
      exact sib_lt hkl
    have hk9 : k ≤ 1000000000 := by
      have := Nat.div_le_self i (2 ^ lv)
      omega
    obtain ⟨Z, rfl⟩ : ∃ Z : World, Z = W := ⟨_, rfl⟩
    have HTZ := Lib.hid (HT.out.only hO (fun k hk e => by have := HTF.out k hk; omega))
    have HND := Lib.hid (show f T = p from by
      have := HTZ.out.node (l := lv) (k := s) (by rw [HQ.out]; omega) (by rw [HQ.out]; exact hsl)
      rw [HQ.out, hT] at this
      rw [this, hp])
    have hTl : T < 2 * 2 ^ q := by
      have := Nat.pow_le_pow_right (n := 2) (by omega) (show q - lv ≤ q by omega)
      omega
    have zT : Z.cell? ⟨bn, T, none⟩ = some (.int .u64 p) := by rw [HTZ.out.N.cell, HQ.out, arrN_get f hTl, HND.out]
    have z2 : Z.cell? ⟨B, 0, none⟩ = some (.pointer (some ⟨g, 0, none⟩)) := only_cell hO (HV2.out.cell 0) (by omega)
    have HSL := Lib.hid (show lv ≤ hgt cs.length ∧ s < 2 ^ (hgt cs.length - lv) ∧ 2 ^ (hgt cs.length - lv) + s = T from by rw [HQ.out]; exact ⟨by omega, hsl, hT⟩)
    rw [hlv, hk, hs, hp] at HPH
    rw [hm] at hR hV hown hc1
    have hbn : ¬ (bn = B + 1 + 1 + 1) ∧ bn < B := by have := HTF.out bn (.inr (.inr rfl)); omega
    have HHO := Lib.hid hO
    have HHV := Lib.hid hV
    have HOW := Lib.hid hown
    have HRR := Lib.hid hR
    have HM := Lib.hid hm
    have zg0 : Z.cell? ⟨gb, 0, none⟩ = some (.int .i64 lv) := by rw [← hlv]; exact hVg.cell 0
    have zg1 : Z.cell? ⟨gb, 1, none⟩ = some (.int .i64 k) := by rw [← hk, ← hlv]; exact hVg.cell 1
    have HGB := Lib.hid (show ∀ j, (Value.slice A m c).ownBlock = some j → j ≠ gb from fun j e h => by
      obtain ⟨_, cur, hc⟩ := own_cells hown e
      rw [h] at hc
      have := hVg
      unfold Vr at this
      rw [this] at hc
      injection hc with hc
      injection hc with _ h2
      cases h2)
    have hgbp : ¬ gb = B + 1 + 1 + 1 := by omega
    have hrw : ∀ j, (Value.slice A m c).ownBlock = some j → B ≤ j ∧ (j = B + 1 + 1 ∨ X.heap.size ≤ j) := fun j e => ⟨(own_cells hown e).1, hR j e⟩
    have hrow : ¬ (Value.slice A m c).ownBlock = some (B + 1 + 1 + 1) := fun e => by have := hrw _ e; omega
    have hb2 : ¬ (B = B + 1 + 1 + 1 ∨ (Value.slice A m c).ownBlock = some B) := by
      rintro (h | h)
      · omega
      · have := hrw _ h; omega
    have hgb2 : ¬ (gb = B + 1 + 1 + 1 ∨ (Value.slice A m c).ownBlock = some gb) := by
      rintro (h | h)
      · exact hgbp h
      · exact HGB.out _ h rfl
    have hbn2 : ¬ (bn = B + 1 + 1 + 1 ∨ (Value.slice A m c).ownBlock = some bn) := by
      rintro (h | h)
      · exact hbn.1 h
      · have := hrw _ h; omega
    have HTR := Lib.hid (show ∀ j, TF g bc bn j → ¬ (j = B + 1 + 1 + 1 ∨ (Value.slice A m c).ownBlock = some j) from fun j hj h => by
      have h1 := HTF.out j hj
      rcases h with h | h
      · omega
      · have := hrw _ h; omega)
    have HRW := Lib.hid hrw
    obtain ⟨xs, hxs⟩ : ∃ xs, prfV cs i (lvs pre) = xs := ⟨_, rfl⟩
    rw [hxs] at HPH HOW HM
    rw [hlv, hk]
    have HSB := Lib.hid hs
    clear hlv hk hs hp hT hO hV hown hR hVg hm hxs hkl hsl hTl hx hXq hrw hbn hgbp
    gi_wp2
    refine region_in (by kernel_rfl) (by kernel_rfl) ?_
    refine wpAny_go (fun A0 L aa w => ∃ (v24 v25 v26 v27 v28 v29 v30 v31 v32 : Value) (b7 : Nat) (A2 : Option Addr) (c2 : Nat), aa = fr A0 [(24, v24), (25, v25), (26, v26), (27, v27), (28, v28), (29, v29), (30, v30), (31, v31), (32, v32)] ∧ ((L 9 = true → L 0 = true ∧ L 8 = true) ∧ (L 8 = true → L 7 = true)) ∧ (Only (fun j => j = B + 1 + 1 + 1 ∨ (Value.slice A m c).ownBlock = some j) Z w) ∧ (Hid ((L 9 = false → Vr w (B + 1 + 1 + 1) 23 #[.slice A m c]) ∧ (L 9 = true → Vr w (B + 1 + 1 + 1) 23 #[.slice A2 (m + 1) c2]))) ∧ (Hid (L 8 = false → w.ownsRow B 22 1 (.slice A m c) m (xs.map (Value.int .u64)))) ∧ (Hid (L 7 = true → L 8 = false → Vr w b7 22 #[.int .u64 p])) ∧ (Hid (L 8 = true → w.ownsRow B 22 1 (.slice A2 (m + 1) c2) (m + 1) ((xs ++ [p]).map (Value.int .u64)) ∧ m + 1 ≤ c2 ∧ c2 ≤ maxLen ∧ ∀ j, (Value.slice A2 (m + 1) c2).ownBlock = some j → (Value.slice A m c).ownBlock = some j ∨ Z.heap.size ≤ j)) ∧ Hid (L 0 = true → v24 = Value.slice A m c) ∧ Hid (L 1 = true → v25 = Value.pointer (some ⟨g, 0, none⟩)) ∧ Hid (L 2 = true → v26 = Value.agg #[.int .i64 lv, .int .i64 k]) ∧ Hid (L 3 = true → v27 = Value.agg #[.int .i64 lv, .int .i64 s]) ∧ Hid (L 4 = true → v28 = Value.pointer (some ⟨bn, T, none⟩)) ∧ Hid (L 5 = true → v29 = Value.pointer (some ⟨bn, T, none⟩)) ∧ Hid (L 6 = true → v30 = Value.int .u64 p) ∧ Hid (L 7 = true → v31 = Value.slice (some ⟨b7, 0, none⟩) 1 1) ∧ Hid (L 8 = true → v32 = Value.slice A2 (m + 1) c2)) [0, 1, 2, 3, 4, 5, 6, 7, 8, 9] (by kernel_rfl) (by kernel_rfl) ?a38I ?a38S ?a38D
    case a38I =>
      refine ⟨?a38v24, ?a38v25, ?a38v26, ?a38v27, ?a38v28, ?a38v29, ?a38v30, ?a38v31, ?a38v32, 0, none, 0, ?a38fr, ⟨no_yet (by kernel_rfl), no_yet (by kernel_rfl)⟩, (Only.refl _ _).drew, Lib.hid ⟨fun _ => HHV.out.drew, no_yet (by kernel_rfl)⟩, Lib.hid (fun _ => own_drew HOW.out), Lib.hid (no_yet (by kernel_rfl)), Lib.hid (no_yet (by kernel_rfl)), Lib.hid (no_yet (by kernel_rfl)), Lib.hid (no_yet (by kernel_rfl)), Lib.hid (no_yet (by kernel_rfl)), Lib.hid (no_yet (by kernel_rfl)), Lib.hid (no_yet (by kernel_rfl)), Lib.hid (no_yet (by kernel_rfl)), Lib.hid (no_yet (by kernel_rfl)), Lib.hid (no_yet (by kernel_rfl)), Lib.hid (no_yet (by kernel_rfl))⟩
      case a38fr => (simp only [fr, List.foldl_cons, List.foldl_nil, Act.put, List.setIfInBounds_toArray, List.set_cons_zero, List.set_cons_succ]; rfl)
    case a38S =>
      refine Steps.go (i := 0) (o := _) rfl ?a38s0 (Steps.go (i := 1) (o := _) rfl ?a38s1 (Steps.go (i := 2) (o := _) rfl ?a38s2 (Steps.go (i := 3) (o := _) rfl ?a38s3 (Steps.go (i := 4) (o := _) rfl ?a38s4 (Steps.go (i := 5) (o := _) rfl ?a38s5 (Steps.go (i := 6) (o := _) rfl ?a38s6 (Steps.go (i := 7) (o := _) rfl ?a38s7 (Steps.go (i := 8) (o := _) rfl ?a38s8 (Steps.go (i := 9) (o := _) rfl ?a38s9 Steps.nil)))))))))
      · rintro L aa w h0 hd ⟨v24, v25, v26, v27, v28, v29, v30, v31, v32, b7, A2, c2, rfl, hY, hO2, hP, hOwn, h7, hA, f0, f1, f2, f3, f4, f5, f6, f7, f8⟩ K hK
        simp only [fr, List.foldl_cons, List.foldl_nil, Act.put, List.setIfInBounds_toArray, List.set_cons_zero, List.set_cons_succ]
        have e9 : L 9 = false := by rcases h : L 9 with _ | _ <;> first | rfl | exact absurd (hY.1 h).1 (by simp [h0])
        have y0 : w.cell? ⟨B + 1 + 1 + 1, 0, none⟩ = some (.slice A m c) := (hP.out.1 e9).cell 0
        go_simp
        exact hK _ _ ⟨(Value.slice A m c), v25, v26, v27, v28, v29, v30, v31, v32, b7, A2, c2, (by simp only [fr, List.foldl_cons, List.foldl_nil, Act.put, List.setIfInBounds_toArray, List.set_cons_zero, List.set_cons_succ]), ⟨fun h => ⟨rfl, (hY.1 h).2⟩, hY.2⟩, hO2, hP, hOwn, h7, hA, Lib.hid (fun _ => rfl), f1, f2, f3, f4, f5, f6, f7, f8⟩
      · rintro L aa w h0 hd ⟨v24, v25, v26, v27, v28, v29, v30, v31, v32, b7, A2, c2, rfl, hY, hO2, hP, hOwn, h7, hA, f0, f1, f2, f3, f4, f5, f6, f7, f8⟩ K hK
        simp only [fr, List.foldl_cons, List.foldl_nil, Act.put, List.setIfInBounds_toArray, List.set_cons_zero, List.set_cons_succ]
        have y0 := only_cell hO2 z2 (fun e => hb2 e)
        go_simp
        exact hK _ _ ⟨v24, (Value.pointer (some ⟨g, 0, none⟩)), v26, v27, v28, v29, v30, v31, v32, b7, A2, c2, (by simp only [fr, List.foldl_cons, List.foldl_nil, Act.put, List.setIfInBounds_toArray, List.set_cons_zero, List.set_cons_succ]), hY, hO2, hP, hOwn, h7, hA, f0, Lib.hid (fun _ => rfl), f2, f3, f4, f5, f6, f7, f8⟩
      · rintro L aa w h0 hd ⟨v24, v25, v26, v27, v28, v29, v30, v31, v32, b7, A2, c2, rfl, hY, hO2, hP, hOwn, h7, hA, f0, f1, f2, f3, f4, f5, f6, f7, f8⟩ K hK
        simp only [fr, List.foldl_cons, List.foldl_nil, Act.put, List.setIfInBounds_toArray, List.set_cons_zero, List.set_cons_succ]
        have y0 := only_cell hO2 zg0 (fun e => hgb2 e)
        have y1 := only_cell hO2 zg1 (fun e => hgb2 e)
        go_simp
        exact hK _ _ ⟨v24, v25, (Value.agg #[.int .i64 lv, .int .i64 k]), v27, v28, v29, v30, v31, v32, b7, A2, c2, (by simp only [fr, List.foldl_cons, List.foldl_nil, Act.put, List.setIfInBounds_toArray, List.set_cons_zero, List.set_cons_succ]), hY, hO2, hP, hOwn, h7, hA, f0, f1, Lib.hid (fun _ => rfl), f3, f4, f5, f6, f7, f8⟩
      · rintro L aa w h0 hd ⟨v24, v25, v26, v27, v28, v29, v30, v31, v32, b7, A2, c2, rfl, hY, hO2, hP, hOwn, h7, hA, f0, f1, f2, f3, f4, f5, f6, f7, f8⟩ K hK
        obtain rfl := f2.out (hd 2 (by kernel_rfl))
        simp only [fr, List.foldl_cons, List.foldl_nil, Act.put, List.setIfInBounds_toArray, List.set_cons_zero, List.set_cons_succ]
        go_simp
        refine (sibling_any lv k _ hk9).mono ?_
        rintro e w3 ⟨rfl, hb3⟩
        rw [HSB.out]
        exact hK _ _ ⟨v24, v25, (Value.agg #[.int .i64 lv, .int .i64 k]), (Value.agg #[.int .i64 lv, .int .i64 s]), v28, v29, v30, v31, v32, b7, A2, c2, (by simp only [fr, List.foldl_cons, List.foldl_nil, Act.put, List.setIfInBounds_toArray, List.set_cons_zero, List.set_cons_succ]), hY, of_below hO2 hb3, Lib.hid ⟨fun h => (hP.out.1 h).call hb3, fun h => (hP.out.2 h).call hb3⟩, Lib.hid (fun h => own_below (hOwn.out h) hb3), Lib.hid (fun h h8 => (h7.out h h8).call hb3), Lib.hid (fun h => ⟨own_below (hA.out h).1 hb3, (hA.out h).2⟩), f0, f1, f2, Lib.hid (fun _ => rfl), f4, f5, f6, f7, f8⟩
      · rintro L aa w h0 hd ⟨v24, v25, v26, v27, v28, v29, v30, v31, v32, b7, A2, c2, rfl, hY, hO2, hP, hOwn, h7, hA, f0, f1, f2, f3, f4, f5, f6, f7, f8⟩ K hK
        obtain rfl := f1.out (hd 1 (by kernel_rfl))
        obtain rfl := f3.out (hd 3 (by kernel_rfl))
        simp only [fr, List.foldl_cons, List.foldl_nil, Act.put, List.setIfInBounds_toArray, List.set_cons_zero, List.set_cons_succ]
        go_simp
        refine (node_any lv s (HTZ.out.only hO2 HTR.out) HSL.out.1 HSL.out.2.1).mono ?_
        rintro e w3 ⟨rfl, hb3⟩
        rw [HSL.out.2.2]
        exact hK _ _ ⟨v24, (Value.pointer (some ⟨g, 0, none⟩)), v26, (Value.agg #[.int .i64 lv, .int .i64 s]), (Value.pointer (some ⟨bn, T, none⟩)), v29, v30, v31, v32, b7, A2, c2, (by simp only [fr, List.foldl_cons, List.foldl_nil, Act.put, List.setIfInBounds_toArray, List.set_cons_zero, List.set_cons_succ]), hY, of_below hO2 hb3, Lib.hid ⟨fun h => (hP.out.1 h).call hb3, fun h => (hP.out.2 h).call hb3⟩, Lib.hid (fun h => own_below (hOwn.out h) hb3), Lib.hid (fun h h8 => (h7.out h h8).call hb3), Lib.hid (fun h => ⟨own_below (hA.out h).1 hb3, (hA.out h).2⟩), f0, f1, f2, f3, Lib.hid (fun _ => rfl), f5, f6, f7, f8⟩
      · rintro L aa w h0 hd ⟨v24, v25, v26, v27, v28, v29, v30, v31, v32, b7, A2, c2, rfl, hY, hO2, hP, hOwn, h7, hA, f0, f1, f2, f3, f4, f5, f6, f7, f8⟩ K hK
        obtain rfl := f4.out (hd 4 (by kernel_rfl))
        simp only [fr, List.foldl_cons, List.foldl_nil, Act.put, List.setIfInBounds_toArray, List.set_cons_zero, List.set_cons_succ]
        go_simp
        exact hK _ _ ⟨v24, v25, v26, v27, (Value.pointer (some ⟨bn, T, none⟩)), (Value.pointer (some ⟨bn, T, none⟩)), v30, v31, v32, b7, A2, c2, (by simp only [fr, List.foldl_cons, List.foldl_nil, Act.put, List.setIfInBounds_toArray, List.set_cons_zero, List.set_cons_succ]), hY, hO2, hP, hOwn, h7, hA, f0, f1, f2, f3, f4, Lib.hid (fun _ => rfl), f6, f7, f8⟩
      · rintro L aa w h0 hd ⟨v24, v25, v26, v27, v28, v29, v30, v31, v32, b7, A2, c2, rfl, hY, hO2, hP, hOwn, h7, hA, f0, f1, f2, f3, f4, f5, f6, f7, f8⟩ K hK
        obtain rfl := f5.out (hd 5 (by kernel_rfl))
        simp only [fr, List.foldl_cons, List.foldl_nil, Act.put, List.setIfInBounds_toArray, List.set_cons_zero, List.set_cons_succ]
        have y0 := only_cell hO2 zT (fun e => hbn2 e)
        go_simp
        exact hK _ _ ⟨v24, v25, v26, v27, v28, (Value.pointer (some ⟨bn, T, none⟩)), (Value.int .u64 p), v31, v32, b7, A2, c2, (by simp only [fr, List.foldl_cons, List.foldl_nil, Act.put, List.setIfInBounds_toArray, List.set_cons_zero, List.set_cons_succ]), hY, hO2, hP, hOwn, h7, hA, f0, f1, f2, f3, f4, f5, Lib.hid (fun _ => rfl), f7, f8⟩
      · rintro L aa w h0 hd ⟨v24, v25, v26, v27, v28, v29, v30, v31, v32, b7, A2, c2, rfl, hY, hO2, hP, hOwn, h7, hA, f0, f1, f2, f3, f4, f5, f6, f7, f8⟩ K hK
        obtain rfl := f6.out (hd 6 (by kernel_rfl))
        simp only [fr, List.foldl_cons, List.foldl_nil, Act.put, List.setIfInBounds_toArray, List.set_cons_zero, List.set_cons_succ]
        have e8 : L 8 = false := by rcases h : L 8 with _ | _ <;> first | rfl | exact absurd (hY.2 h) (by simp [h0])
        go_simp
        exact hK _ _ ⟨v24, v25, v26, v27, v28, v29, (Value.int .u64 p), (Value.slice (some ⟨(w.heap.size), 0, none⟩) 1 1), v32, w.heap.size, A2, c2, (by simp only [fr, List.foldl_cons, List.foldl_nil, Act.put, List.setIfInBounds_toArray, List.set_cons_zero, List.set_cons_succ]), ⟨hY.1, fun _ => rfl⟩, hO2.alloc _, Lib.hid ⟨fun h => (hP.out.1 h).alloc _, fun h => (hP.out.2 h).alloc _⟩, Lib.hid (fun h => (hOwn.out h).alloc _), Lib.hid (fun _ _ => Vr.new w _ _), Lib.hid (no_yet e8), f0, f1, f2, f3, f4, f5, f6, Lib.hid (fun _ => rfl), f8⟩
      · rintro L aa w h0 hd ⟨v24, v25, v26, v27, v28, v29, v30, v31, v32, b7, A2, c2, rfl, hY, hO2, hP, hOwn, h7, hA, f0, f1, f2, f3, f4, f5, f6, f7, f8⟩ K hK
        obtain rfl := f0.out (hd 0 (by kernel_rfl))
        obtain rfl := f7.out (hd 7 (by kernel_rfl))
        simp only [fr, List.foldl_cons, List.foldl_nil, Act.put, List.setIfInBounds_toArray, List.set_cons_zero, List.set_cons_succ]
        have d7 := hd 7 (by kernel_rfl)
        have e9 : L 9 = false := by rcases h : L 9 with _ | _ <;> first | rfl | exact absurd (hY.1 h).2 (by simp [h0])
        have V7 := h7.out d7 h0
        refine step_appA _ 32 rfl (by rfl) (.tmp 24) (.tmp 31) slU64b rfl rfl (hOwn.out h0) rfl (rd_vr V7 (m := 1) (sz := 1) rfl) (by intro u hu; simp at hu; subst hu; rfl) (m + 1) rfl (by unfold maxLen; omega) (by omega) (by have := hO2.size; omega) ?_
        intro A3 c3 w4 g1 g2 g3 g4 g5
        simp only [Act.put, List.setIfInBounds_toArray, List.set_cons_zero, List.set_cons_succ]
        exact hK _ _ ⟨(Value.slice A m c), v25, v26, v27, v28, v29, v30, (Value.slice (some ⟨b7, 0, none⟩) 1 1), (Value.slice (A3) (m + 1) (c3)), b7, A3, c3, (by simp only [fr, List.foldl_cons, List.foldl_nil, Act.put, List.setIfInBounds_toArray, List.set_cons_zero, List.set_cons_succ]), ⟨fun h => ⟨(hY.1 h).1, rfl⟩, fun _ => d7⟩, hO2.grown g4 (fun j e => .inl (.inr e)), Lib.hid ⟨fun h => (hP.out.1 h).grown g4 (fun e => hrow e.symm), no_yet e9⟩, Lib.hid (fun h => by cases h), Lib.hid (fun _ h => by cases h), Lib.hid (fun _ => ⟨by rw [List.map_append]; exact g3, g1, g2, fun j e => by rcases g5 with h | h <;> rw [h] at e; exact .inl e; exact .inr (by injection e with e; have := hO2.size; omega)⟩), f0, f1, f2, f3, f4, f5, f6, f7, Lib.hid (fun _ => rfl)⟩
      · rintro L aa w h0 hd ⟨v24, v25, v26, v27, v28, v29, v30, v31, v32, b7, A2, c2, rfl, hY, hO2, hP, hOwn, h7, hA, f0, f1, f2, f3, f4, f5, f6, f7, f8⟩ K hK
        obtain rfl := f8.out (hd 8 (by kernel_rfl))
        simp only [fr, List.foldl_cons, List.foldl_nil, Act.put, List.setIfInBounds_toArray, List.set_cons_zero, List.set_cons_succ]
        have d0 := hd 0 (by kernel_rfl)
        have d8 := hd 8 (by kernel_rfl)
        have v0 := hP.out.1 h0
        have HV0 := Lib.hid v0
        have y0 : w.cell? ⟨B + 1 + 1 + 1, 0, none⟩ = some (.slice A m c) := v0.cell 0
        have y1 := v0.frozen 0
        clear v0
        go_simp
        exact hK _ _ ⟨v24, v25, v26, v27, v28, v29, v30, v31, (Value.slice A2 (m + 1) c2), b7, A2, c2, (by simp only [fr, List.foldl_cons, List.foldl_nil, Act.put, List.setIfInBounds_toArray, List.set_cons_zero, List.set_cons_succ]), ⟨fun _ => ⟨d0, d8⟩, hY.2⟩, hO2.setCell (.inl (.inl rfl)) _, Lib.hid ⟨(fun h => by cases h), fun _ => HV0.out.set 0 _⟩, Lib.hid (fun h => absurd d8 (by simp [show L 8 = false from h])), Lib.hid (fun _ h => absurd d8 (by simp [show L 8 = false from h])), Lib.hid (fun _ => by obtain ⟨q1, q2, q3, q4⟩ := hA.out d8; exact ⟨own_only q1 (o_set (Only.refl _ _) 0 _) (fun j e h => by rcases q4 j e with q | q; exact hrow (by rw [← h]; exact q); omega), q2, q3, q4⟩), f0, f1, f2, f3, f4, f5, f6, f7, f8⟩
    case a38D =>
      rintro L aa w hL ⟨v24, v25, v26, v27, v28, v29, v30, v31, v32, b7, A2, c2, rfl, hY, hO2, hP, hOwn, h7, hA, f0, f1, f2, f3, f4, f5, f6, f7, f8⟩
      obtain rfl := f0.out (hL 0 (by decide))
      obtain rfl := f1.out (hL 1 (by decide))
      obtain rfl := f2.out (hL 2 (by decide))
      obtain rfl := f3.out (hL 3 (by decide))
      obtain rfl := f4.out (hL 4 (by decide))
      obtain rfl := f5.out (hL 5 (by decide))
      obtain rfl := f6.out (hL 6 (by decide))
      obtain rfl := f7.out (hL 7 (by decide))
      obtain rfl := f8.out (hL 8 (by decide))
      have l9 := hL 9 (by decide)
      simp only [fr, List.foldl_cons, List.foldl_nil, Act.put, List.setIfInBounds_toArray, List.set_cons_zero, List.set_cons_succ]
      refine onlyN_mk ?_
      gi_wp2
      obtain ⟨q1, q2, q3, q4⟩ := hA.out (hL 8 (by decide))
      have hlp : (prfV cs i (lvs (pre ++ [x]))).length = m + 1 := by rw [HPH.out, List.length_append, HM.out]; rfl
      refine ⟨keepsFrom_cells hO2 (fun j hj => ?_), Kp2.of_only hO2 (by omega) (by omega) (fun h => ?_) (fun h => ?_), HHO.out.step hO2 (fun j hj h => ?_), A2, c2, ?_⟩
      · rcases hj with rfl | h
        · exact ⟨_, _, HHV.out⟩
        · obtain ⟨_, cur, hc⟩ := own_cells HOW.out h
          exact ⟨_, _, hc⟩
      · rcases h with h | h
        · omega
        · have := HRW.out _ h; omega
      · rcases h with h | h
        · omega
        · have := HRW.out _ h; omega
      · rcases h with h | h
        · exact .inl h
        · have := HRW.out _ h
          exact .inr (by omega)
      · rw [hlp, HPH.out]
        exact ⟨fun j e => by rcases q4 j e with h | h; exact (by rw [← HXs.out]; exact (HRW.out _ h).2); exact .inr (by omega), hP.out.2 l9, q1, q2, q3⟩
  case done =>
    rintro D ys W hD hys ⟨hO, A, c, hR, hV, hown, hc1, hc2⟩ hK
    rw [hys] at hR hV hown hc1
    obtain ⟨xs, hxs⟩ : ∃ xs, prfV cs i (List.range q) = xs := ⟨_, rfl⟩
    have HXS := Lib.hid hxs
    rw [hxs] at hR hV hown hc1
    have hXq := HXs.out
    have hsz := hO.size
    have hrb : ∀ j, (Value.slice A xs.length c).ownBlock = some j → B ≤ j ∧ (j = B + 1 + 1 ∨ X.heap.size ≤ j) := fun j e => ⟨(own_cells hown e).1, hR j e⟩
    have HHV := Lib.hid hV
    have y5 : W.cell? ⟨B + 1 + 1 + 1, 0, none⟩ = some (.slice A xs.length c) := hV.cell 0
    have y2 : W.cell? ⟨B, 0, none⟩ = some (.pointer (some ⟨g, 0, none⟩)) := only_cell hO (HV2.out.cell 0) (by omega)
    have HTW := Lib.hid (HT.out.only hO (fun k hk e => by have := HTF.out k hk; omega))
    have y1 : W.cell? ⟨g, 1, none⟩ = some (.slice (some ⟨bc, 0, none⟩) cs.length cs.length) := HTW.out.V.cell 1
    have yc : W.cell? ⟨bc, i, none⟩ = some (.int .i64 cs[i]) := by rw [HTW.out.C.cell]; exact arrI_get hi
    have V4 : Vr W (B + 1) 25 #[.int .i64 0, .int .i64 0, .slice none 0 0] := HV4.out.only hO (by omega)
    have HV4W := Lib.hid V4
    have HRB := Lib.hid hrb
    have HOW := Lib.hid hown
    have HO := Lib.hid hO
    have HK := Lib.hid hK
    have hil : (i : Int) < (cs.length : Int) := by omega
    have hi0 : (0 : Int) ≤ (i : Int) := by omega
    have hg1 : ¬ g = B + 1 := by have := HTF.out g (.inl rfl); omega
    have hc1b : ¬ bc = B + 1 := by have := HTF.out bc (.inr (.inl rfl)); omega
    obtain ⟨ci, hci⟩ : ∃ y, cs[i] = y := ⟨_, rfl⟩
    have HCI := Lib.hid hci
    rw [hci] at yc
    clear hrb hV hown hO hK V4 hys hR hxs hci
    gi_wp2
    refine wpIn_wide.2 ?_
    obtain ⟨Z, rfl⟩ : ∃ Z : World, Z = W := ⟨_, rfl⟩
    refine wp_region_any (by kernel_rfl) ?_
    change wpAny _ _ _ _ _ _ _ (World.drew _)
    refine wpAny_go (fun A0 L aa w => ∃ (v33 v34 v35 v36 v37 v38 v39 v40 v41 v42 : Value), aa = fr A0 [(33, v33), (34, v34), (35, v35), (36, v36), (37, v37), (38, v38), (39, v39), (40, v40), (41, v41), (42, v42)] ∧ (Only (· = B + 1) Z w) ∧ (Hid ((L 10 = false → Vr w (B + 1) 25 #[.int .i64 0, .int .i64 0, .slice none 0 0]) ∧ (L 10 = true → Vr w (B + 1) 25 #[.int .i64 i, .int .i64 ci, .slice A xs.length c]))) ∧ Hid (L 0 = true → v33 = Value.int .i64 i) ∧ Hid (L 1 = true → v34 = Value.pointer (some ⟨g, 0, none⟩)) ∧ Hid (L 2 = true → v35 = Value.pointer (some ⟨g, 0, none⟩)) ∧ Hid (L 3 = true → v36 = Value.pointer (some ⟨g, 1, none⟩)) ∧ Hid (L 4 = true → v37 = Value.slice (some ⟨bc, 0, none⟩) cs.length cs.length) ∧ Hid (L 5 = true → v38 = Value.int .i64 i) ∧ Hid (L 6 = true → v39 = Value.pointer (some ⟨bc, i, none⟩)) ∧ Hid (L 7 = true → v40 = Value.int .i64 ci) ∧ Hid (L 8 = true → v41 = Value.slice A xs.length c) ∧ Hid (L 9 = true → v42 = Value.agg #[.int .i64 i, .int .i64 ci, .slice A xs.length c])) [0, 1, 2, 3, 4, 5, 6, 7, 8, 9, 10] (by kernel_rfl) (by kernel_rfl) ?a39I ?a39S ?a39D
    case a39I =>
      refine ⟨?a39v33, ?a39v34, ?a39v35, ?a39v36, ?a39v37, ?a39v38, ?a39v39, ?a39v40, ?a39v41, ?a39v42, ?a39fr, o_drew (Only.refl _ _), Lib.hid ⟨fun _ => HV4W.out.drew, no_yet (by kernel_rfl)⟩, Lib.hid (no_yet (by kernel_rfl)), Lib.hid (no_yet (by kernel_rfl)), Lib.hid (no_yet (by kernel_rfl)), Lib.hid (no_yet (by kernel_rfl)), Lib.hid (no_yet (by kernel_rfl)), Lib.hid (no_yet (by kernel_rfl)), Lib.hid (no_yet (by kernel_rfl)), Lib.hid (no_yet (by kernel_rfl)), Lib.hid (no_yet (by kernel_rfl)), Lib.hid (no_yet (by kernel_rfl))⟩
      case a39fr => (simp only [fr, List.foldl_cons, List.foldl_nil, Act.put, List.setIfInBounds_toArray, List.set_cons_zero, List.set_cons_succ]; rfl)
    case a39S =>
      refine Steps.go (i := 0) (o := _) rfl ?a39s0 (Steps.go (i := 1) (o := _) rfl ?a39s1 (Steps.go (i := 2) (o := _) rfl ?a39s2 (Steps.go (i := 3) (o := _) rfl ?a39s3 (Steps.go (i := 4) (o := _) rfl ?a39s4 (Steps.go (i := 5) (o := _) rfl ?a39s5 (Steps.go (i := 6) (o := _) rfl ?a39s6 (Steps.go (i := 7) (o := _) rfl ?a39s7 (Steps.go (i := 8) (o := _) rfl ?a39s8 (Steps.go (i := 9) (o := _) rfl ?a39s9 (Steps.go (i := 10) (o := _) rfl ?a39s10 Steps.nil))))))))))
      · rintro L aa w h0 hd ⟨v33, v34, v35, v36, v37, v38, v39, v40, v41, v42, rfl, hO2, hP, f0, f1, f2, f3, f4, f5, f6, f7, f8, f9⟩ K hK
        simp only [fr, List.foldl_cons, List.foldl_nil, Act.put, List.setIfInBounds_toArray, List.set_cons_zero, List.set_cons_succ]
        go_simp
        exact hK _ _ ⟨(Value.int .i64 i), v34, v35, v36, v37, v38, v39, v40, v41, v42, (by simp only [fr, List.foldl_cons, List.foldl_nil, Act.put, List.setIfInBounds_toArray, List.set_cons_zero, List.set_cons_succ]), hO2, hP, Lib.hid (fun _ => rfl), f1, f2, f3, f4, f5, f6, f7, f8, f9⟩
      · rintro L aa w h0 hd ⟨v33, v34, v35, v36, v37, v38, v39, v40, v41, v42, rfl, hO2, hP, f0, f1, f2, f3, f4, f5, f6, f7, f8, f9⟩ K hK
        simp only [fr, List.foldl_cons, List.foldl_nil, Act.put, List.setIfInBounds_toArray, List.set_cons_zero, List.set_cons_succ]
        have x := only_cell hO2 y2 (by omega)
        go_simp
        exact hK _ _ ⟨v33, (Value.pointer (some ⟨g, 0, none⟩)), v35, v36, v37, v38, v39, v40, v41, v42, (by simp only [fr, List.foldl_cons, List.foldl_nil, Act.put, List.setIfInBounds_toArray, List.set_cons_zero, List.set_cons_succ]), hO2, hP, f0, Lib.hid (fun _ => rfl), f2, f3, f4, f5, f6, f7, f8, f9⟩
      · rintro L aa w h0 hd ⟨v33, v34, v35, v36, v37, v38, v39, v40, v41, v42, rfl, hO2, hP, f0, f1, f2, f3, f4, f5, f6, f7, f8, f9⟩ K hK
        obtain rfl := f1.out (hd 1 (by kernel_rfl))
        simp only [fr, List.foldl_cons, List.foldl_nil, Act.put, List.setIfInBounds_toArray, List.set_cons_zero, List.set_cons_succ]
        go_simp
        exact hK _ _ ⟨v33, (Value.pointer (some ⟨g, 0, none⟩)), (Value.pointer (some ⟨g, 0, none⟩)), v36, v37, v38, v39, v40, v41, v42, (by simp only [fr, List.foldl_cons, List.foldl_nil, Act.put, List.setIfInBounds_toArray, List.set_cons_zero, List.set_cons_succ]), hO2, hP, f0, f1, Lib.hid (fun _ => rfl), f3, f4, f5, f6, f7, f8, f9⟩
      · rintro L aa w h0 hd ⟨v33, v34, v35, v36, v37, v38, v39, v40, v41, v42, rfl, hO2, hP, f0, f1, f2, f3, f4, f5, f6, f7, f8, f9⟩ K hK
        obtain rfl := f2.out (hd 2 (by kernel_rfl))
        simp only [fr, List.foldl_cons, List.foldl_nil, Act.put, List.setIfInBounds_toArray, List.set_cons_zero, List.set_cons_succ]
        go_simp
        exact hK _ _ ⟨v33, v34, (Value.pointer (some ⟨g, 0, none⟩)), (Value.pointer (some ⟨g, 1, none⟩)), v37, v38, v39, v40, v41, v42, (by simp only [fr, List.foldl_cons, List.foldl_nil, Act.put, List.setIfInBounds_toArray, List.set_cons_zero, List.set_cons_succ]), hO2, hP, f0, f1, f2, Lib.hid (fun _ => rfl), f4, f5, f6, f7, f8, f9⟩
      · rintro L aa w h0 hd ⟨v33, v34, v35, v36, v37, v38, v39, v40, v41, v42, rfl, hO2, hP, f0, f1, f2, f3, f4, f5, f6, f7, f8, f9⟩ K hK
        obtain rfl := f3.out (hd 3 (by kernel_rfl))
        simp only [fr, List.foldl_cons, List.foldl_nil, Act.put, List.setIfInBounds_toArray, List.set_cons_zero, List.set_cons_succ]
        have x := only_cell hO2 y1 (fun e => hg1 e)
        go_simp
        exact hK _ _ ⟨v33, v34, v35, (Value.pointer (some ⟨g, 1, none⟩)), (Value.slice (some ⟨bc, 0, none⟩) cs.length cs.length), v38, v39, v40, v41, v42, (by simp only [fr, List.foldl_cons, List.foldl_nil, Act.put, List.setIfInBounds_toArray, List.set_cons_zero, List.set_cons_succ]), hO2, hP, f0, f1, f2, f3, Lib.hid (fun _ => rfl), f5, f6, f7, f8, f9⟩
      · rintro L aa w h0 hd ⟨v33, v34, v35, v36, v37, v38, v39, v40, v41, v42, rfl, hO2, hP, f0, f1, f2, f3, f4, f5, f6, f7, f8, f9⟩ K hK
        simp only [fr, List.foldl_cons, List.foldl_nil, Act.put, List.setIfInBounds_toArray, List.set_cons_zero, List.set_cons_succ]
        go_simp
        exact hK _ _ ⟨v33, v34, v35, v36, v37, (Value.int .i64 i), v39, v40, v41, v42, (by simp only [fr, List.foldl_cons, List.foldl_nil, Act.put, List.setIfInBounds_toArray, List.set_cons_zero, List.set_cons_succ]), hO2, hP, f0, f1, f2, f3, f4, Lib.hid (fun _ => rfl), f6, f7, f8, f9⟩
      · rintro L aa w h0 hd ⟨v33, v34, v35, v36, v37, v38, v39, v40, v41, v42, rfl, hO2, hP, f0, f1, f2, f3, f4, f5, f6, f7, f8, f9⟩ K hK
        obtain rfl := f4.out (hd 4 (by kernel_rfl))
        obtain rfl := f5.out (hd 5 (by kernel_rfl))
        simp only [fr, List.foldl_cons, List.foldl_nil, Act.put, List.setIfInBounds_toArray, List.set_cons_zero, List.set_cons_succ]
        go_simp
        exact hK _ _ ⟨v33, v34, v35, v36, (Value.slice (some ⟨bc, 0, none⟩) cs.length cs.length), (Value.int .i64 i), (Value.pointer (some ⟨bc, i, none⟩)), v40, v41, v42, (by simp only [fr, List.foldl_cons, List.foldl_nil, Act.put, List.setIfInBounds_toArray, List.set_cons_zero, List.set_cons_succ]), hO2, hP, f0, f1, f2, f3, f4, f5, Lib.hid (fun _ => rfl), f7, f8, f9⟩
      · rintro L aa w h0 hd ⟨v33, v34, v35, v36, v37, v38, v39, v40, v41, v42, rfl, hO2, hP, f0, f1, f2, f3, f4, f5, f6, f7, f8, f9⟩ K hK
        obtain rfl := f6.out (hd 6 (by kernel_rfl))
        simp only [fr, List.foldl_cons, List.foldl_nil, Act.put, List.setIfInBounds_toArray, List.set_cons_zero, List.set_cons_succ]
        have x := only_cell hO2 yc (fun e => hc1b e)
        go_simp
        exact hK _ _ ⟨v33, v34, v35, v36, v37, v38, (Value.pointer (some ⟨bc, i, none⟩)), (Value.int .i64 ci), v41, v42, (by simp only [fr, List.foldl_cons, List.foldl_nil, Act.put, List.setIfInBounds_toArray, List.set_cons_zero, List.set_cons_succ]), hO2, hP, f0, f1, f2, f3, f4, f5, f6, Lib.hid (fun _ => rfl), f8, f9⟩
      · rintro L aa w h0 hd ⟨v33, v34, v35, v36, v37, v38, v39, v40, v41, v42, rfl, hO2, hP, f0, f1, f2, f3, f4, f5, f6, f7, f8, f9⟩ K hK
        simp only [fr, List.foldl_cons, List.foldl_nil, Act.put, List.setIfInBounds_toArray, List.set_cons_zero, List.set_cons_succ]
        have x := only_cell hO2 y5 (by omega)
        go_simp
        exact hK _ _ ⟨v33, v34, v35, v36, v37, v38, v39, v40, (Value.slice A xs.length c), v42, (by simp only [fr, List.foldl_cons, List.foldl_nil, Act.put, List.setIfInBounds_toArray, List.set_cons_zero, List.set_cons_succ]), hO2, hP, f0, f1, f2, f3, f4, f5, f6, f7, Lib.hid (fun _ => rfl), f9⟩
      · rintro L aa w h0 hd ⟨v33, v34, v35, v36, v37, v38, v39, v40, v41, v42, rfl, hO2, hP, f0, f1, f2, f3, f4, f5, f6, f7, f8, f9⟩ K hK
        obtain rfl := f0.out (hd 0 (by kernel_rfl))
        obtain rfl := f7.out (hd 7 (by kernel_rfl))
        obtain rfl := f8.out (hd 8 (by kernel_rfl))
        simp only [fr, List.foldl_cons, List.foldl_nil, Act.put, List.setIfInBounds_toArray, List.set_cons_zero, List.set_cons_succ]
        go_simp
        exact hK _ _ ⟨(Value.int .i64 i), v34, v35, v36, v37, v38, v39, (Value.int .i64 ci), (Value.slice A xs.length c), (Value.agg #[.int .i64 i, .int .i64 ci, .slice A xs.length c]), (by simp only [fr, List.foldl_cons, List.foldl_nil, Act.put, List.setIfInBounds_toArray, List.set_cons_zero, List.set_cons_succ]), hO2, hP, f0, f1, f2, f3, f4, f5, f6, f7, f8, Lib.hid (fun _ => rfl)⟩
      · rintro L aa w h0 hd ⟨v33, v34, v35, v36, v37, v38, v39, v40, v41, v42, rfl, hO2, hP, f0, f1, f2, f3, f4, f5, f6, f7, f8, f9⟩ K hK
        obtain rfl := f9.out (hd 9 (by kernel_rfl))
        simp only [fr, List.foldl_cons, List.foldl_nil, Act.put, List.setIfInBounds_toArray, List.set_cons_zero, List.set_cons_succ]
        have v0 := hP.out.1 h0
        have HV0 := Lib.hid v0
        have u0 : w.cell? ⟨B + 1, 0, none⟩ = some (.int .i64 0) := v0.cell 0
        have u1 : w.cell? ⟨B + 1, 1, none⟩ = some (.int .i64 0) := v0.cell 1
        have u2 : w.cell? ⟨B + 1, 2, none⟩ = some (.slice none 0 0) := v0.cell 2
        have u3 := v0.frozen
        have u4 := v0.lt
        clear v0
        go_simp
        exact hK _ _ ⟨v33, v34, v35, v36, v37, v38, v39, v40, v41, (Value.agg #[.int .i64 i, .int .i64 ci, .slice A xs.length c]), (by simp only [fr, List.foldl_cons, List.foldl_nil, Act.put, List.setIfInBounds_toArray, List.set_cons_zero, List.set_cons_succ]), o_set (o_set (o_set hO2 _ _) _ _) _ _, Lib.hid ⟨(fun h => by cases h), fun _ => vr_set3 HV0.out _ _ _⟩, f0, f1, f2, f3, f4, f5, f6, f7, f8, f9⟩
    case a39D =>
      rintro L aa w hL ⟨v33, v34, v35, v36, v37, v38, v39, v40, v41, v42, rfl, hO2, hP, f0, f1, f2, f3, f4, f5, f6, f7, f8, f9⟩
      obtain rfl := f0.out (hL 0 (by decide))
      obtain rfl := f1.out (hL 1 (by decide))
      obtain rfl := f2.out (hL 2 (by decide))
      obtain rfl := f3.out (hL 3 (by decide))
      obtain rfl := f4.out (hL 4 (by decide))
      obtain rfl := f5.out (hL 5 (by decide))
      obtain rfl := f6.out (hL 6 (by decide))
      obtain rfl := f7.out (hL 7 (by decide))
      obtain rfl := f8.out (hL 8 (by decide))
      obtain rfl := f9.out (hL 9 (by decide))
      have l10 := hL 10 (by decide)
      simp only [fr, List.foldl_cons, List.foldl_nil, Act.put, List.setIfInBounds_toArray, List.set_cons_zero, List.set_cons_succ]
      have v4 := hP.out.2 l10
      have hDl := (Array.getElem?_eq_some_iff.1 HK.out).1
      have hK2 : w.heap[D]? = some (.deferred (some [])) := (hO2.heap hDl (by omega)).trans HK.out
      have v5 := vr_putObj (o := .deferred none) v4 (show B + 1 ≠ D by omega)
      have hBW : Below W0.heap.size W0 w := by
        have h1 := HBX.out.size
        have h2 := HB0.out
        exact HBX.out.trans ((HO.out.below (B := W0.heap.size) h1 (fun j e => by omega)).trans (hO2.below (B := W0.heap.size) (by omega) (fun j e => by omega)))
      gi_wp2
      refine ⟨by simp, .inl ⟨_, _, rfl, run_takeDeferred hK2, ?_⟩⟩
      have hbk := belowK_b (w := W0) (Nat.le_refl _) w D _ (.deferred none) (by have := HBX.out.size; omega) hK2 rfl rfl
      have ho5 := ownsRow_putObj (own_only HOW.out hO2 (fun j e h => by have := HRB.out j e; omega)) (.deferred none) hK2 rfl
      generalize w.putObj D (.deferred none) = Y at *
      have c0 : Y.cell? ⟨B + 1, 0, none⟩ = some (.int .i64 i) := v5.cell 0
      have c1 : Y.cell? ⟨B + 1, 1, none⟩ = some (.int .i64 ci) := v5.cell 1
      have c2 : Y.cell? ⟨B + 1, 2, none⟩ = some (.slice A xs.length c) := v5.cell 2
      refine ⟨.agg #[.int .i64 i, .int .i64 ci, .slice A xs.length c], by simp [results, Try.results20, go_sem, c0, c1, c2], ?_⟩
      rw [HCI.out, HXS.out]
      rw [← HB0.out] at ho5
      exact ⟨A, c, rfl, ho5, hc1, hc2, hBW.trans hbk⟩
theorem prove_yes (g bc bn : Nat) (cs : List Int) (f : Nat → Int) (i : Nat) (w : World) (H : Tr w g bc bn cs f) (hi : i < cs.length) :
    Calls Try.prog 20 #[.pointer (some ⟨g, 0, none⟩), .int .i64 (i : Int)] w (RetLf w i cs[i] (prfV cs i (List.range (hgt cs.length)))) := callsIn_wide.1 (prove_in g bc bn cs f i w H hi)
/-- the leaf that Prove answers -/
def lfOf (cs : List Int) (i : Int) : Int × Int × List Int := if h : 0 ≤ i ∧ i < (cs.length : Int) then (i, cs[i.toNat]'(by omega), prfV cs i.toNat (List.range (hgt cs.length))) else (0, 0, [])
theorem prove_any (g bc bn : Nat) (cs : List Int) (f : Nat → Int) (i : Int) (w : World) (H : Tr w g bc bn cs f) :
    Calls Try.prog 20 #[.pointer (some ⟨g, 0, none⟩), .int .i64 i] w (RetLf w (lfOf cs i).1 (lfOf cs i).2.1 (lfOf cs i).2.2) := by
  unfold lfOf
  by_cases h : 0 ≤ i ∧ i < (cs.length : Int)
  · rw [dif_pos h]
    obtain ⟨j, rfl⟩ := Int.eq_ofNat_of_zero_le h.1
    exact prove_yes g bc bn cs f j w H (by omega)
  · rw [dif_neg h]
    exact prove_no g bc bn cs f i w H h
end Go.Proofs.Ytgelhcgaacnjcaa
