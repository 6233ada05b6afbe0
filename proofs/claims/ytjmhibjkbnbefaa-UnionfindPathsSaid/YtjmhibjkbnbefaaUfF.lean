/-
  WHAT IS PROVED HERE: the contract of package unionfind's Groups: the sets in increasing order by their least elements, in new memory; the partition is kept. No condition but that the sets lie in memory as stated, with at most 10000 elements.
-/
import Derived.Test.YtjmhibjkbnbefaaUfE
import Derived.Test.YtjmhibjkbnbefaaMapV
namespace Go.Proofs.Ytjmhibjkbnbefaa
set_option linter.unusedVariables false
open Go.ChangeShapes Go.WideShapes Go.ChangeAt Go.RowKit
open Go.Maps (Keyed)

theorem keyInt : Keyed Try.prog 3 := Go.Maps.int_keyed Try.underlying3
theorem wfN {k : Nat} (h : k ≤ 10000) : (Lit.int .i64 (k : Int)).wf = true := by
  unfold Lit.wf
  rw [Bool.and_eq_true, decide_eq_true_iff, decide_eq_true_iff]
  exact ⟨Int.le_trans (by decide : IntKind.i64.min ≤ 0) (by omega), Int.le_trans (by omega : (k : Int) ≤ 10000) (by decide)⟩
theorem keyN {k : Nat} (h : k ≤ 10000) : keyOf Try.prog 3 (.int .i64 (k : Int)) = some (.int .i64 (k : Int)) := Go.Maps.keyOf_int_mk Try.underlying3 (wfN h)
theorem zeroSl (w : World) : (zeroValue 22).run Try.prog w = .ok (.slice none 0 0) w := by kernel_rfl

/-- What the map holds at r. -/
def atK (F : Lit → Option Value) (r : Nat) : Value := (F (.int .i64 (r : Int))).getD (.slice none 0 0)
theorem atK_put_same (F : Lit → Option Value) (r : Nat) (v : Value) : atK (putF F (.int .i64 (r : Int)) (some v)) r = v := by unfold atK; rw [putF_same]; rfl
theorem atK_put_other (F : Lit → Option Value) {r r' : Nat} (v : Value) (h : r' ≠ r) : atK (putF F (.int .i64 (r : Int)) (some v)) r' = atK F r' := by
  unfold atK
  rw [putF_other]
  intro e
  injection e with _ e
  omega

/-- What the first loop holds: the roots below kr, and the members below k. -/
structure GA (wr : World) (B b : Nat) (f : Nat → Nat) (kr k m : Nat) (A4 : Option Addr) (c4 : Nat) (F : Lit → Option Value) : Prop where
  hm : m = (heads f kr).length
  roots : wr.ownsRow B 3 1 (.slice A4 m c4) m ((heads f kr).map natI)
  hc : m ≤ c4 ∧ c4 ≤ maxLen
  map : MapV wr Try.prog 3 b k F
  bB : b < B
  rows : ∀ r, ∃ A c, atK F r = .slice A (memb f k r).length c ∧ wr.ownsRow B 3 1 (atK F r) (memb f k r).length ((memb f k r).map natI)
  apart : ∀ r r', r ≠ r' → Apart (atK F r) (atK F r')
  apart2 : ∀ r, Apart (atK F r) (.slice A4 m c4)
section
variable {wr w1 w2 w3 : World} {B b : Nat} {f : Nat → Nat} {kr k m : Nat} {A4 : Option Addr} {c4 : Nat} {F : Lit → Option Value}
theorem GA.only {G : Nat → Prop} (h : GA wr B b f kr k m A4 c4 F) (ho : Only G wr w1) (hG : ∀ j, b ≤ j → ¬ G j) : GA w1 B b f kr k m A4 c4 F := by
  obtain ⟨h1, h2, h3, h4, h5, h6, h7, h8⟩ := h
  refine ⟨h1, own_only h2 ho fun j hj => hG j (by omega), h3, h4.only ho (hG b (Nat.le_refl _)), h5, fun r => ?_, h7, h8⟩
  obtain ⟨A, c, e, hr⟩ := h6 r
  exact ⟨A, c, e, own_only hr ho fun j hj => hG j (by omega)⟩
theorem GA.miss (h : GA wr B b f k k m A4 c4 F) (hf : ¬ f k = k) : GA wr B b f (k + 1) k m A4 c4 F := by
  obtain ⟨h1, h2, h3, h4, h5, h6, h7, h8⟩ := h
  exact ⟨by rw [heads_miss hf]; exact h1, by rw [heads_miss hf]; exact h2, h3, h4, h5, h6, h7, h8⟩
theorem apart_new {w : World} {base : Nat} {e : TypeId} {sz : Nat} {v u u' : Value} {n : Nat} {xs : List Value} (h : w.ownsRow base e sz v n xs) (ha : Apart v u) (hl : u'.ownBlock = u.ownBlock ∨ ∃ g, u'.ownBlock = some g ∧ w.heap.size ≤ g) : Apart v u' := by
  rcases hl with h1 | ⟨g, h1, h2⟩
  · unfold Apart
    rw [h1]
    exact ha
  · rcases hb : v.ownBlock with _ | j
    · exact .inl hb
    · refine .inr ?_
      have := (h.lt j hb).2
      rw [h1, hb]
      intro e
      injection e with e
      omega
theorem Apart.symm {v u : Value} (h : Apart v u) : Apart u v := by
  unfold Apart at *
  rcases h with h | h
  · rcases hu : u.ownBlock with _ | g
    · exact .inl rfl
    · exact .inr (by rw [h]; intro e; cases e)
  · exact .inr (Ne.symm h)
theorem MapV.not_own {P : Program} {w : World} {k : TypeId} {b n : Nat} {F : Lit → Option Value} {base : Nat} {e : TypeId} {sz : Nat} {v : Value} {m : Nat} {xs : List Value} (h : w.ownsRow base e sz v m xs) (hb : b < base) : some b ≠ v.ownBlock := by
  intro e
  have := (h.lt b e.symm).1
  omega
/-- Behind the append to the roots. -/
theorem GA.hit {A4' : Option Addr} {c4' : Nat} (h : GA wr B b f k k m A4 c4 F) (hf : f k = k) (h0 : Below wr.heap.size wr w1)
    (hown : w2.ownsRow B 3 1 (.slice A4' (m + 1) c4') (m + 1) ((heads f k).map natI ++ [natI k])) (hg : w1.grownBy w2 (Value.slice A4 m c4).ownBlock) (hc : m + 1 ≤ c4' ∧ c4' ≤ maxLen)
    (hloc : (Value.slice A4' (m + 1) c4').ownBlock = (Value.slice A4 m c4).ownBlock ∨ (Value.slice A4' (m + 1) c4').ownBlock = some w1.heap.size) : GA w2 B b f (k + 1) k (m + 1) A4' c4' F := by
  obtain ⟨h1, h2, h3, h4, h5, h6, h7, h8⟩ := h
  refine ⟨by rw [heads_hit hf, List.length_append, ← h1]; rfl, by rw [heads_hit hf, List.map_append]; exact hown, hc, (h4.call h0).kept hg (MapV.not_own (P := Try.prog) (w := w1) (k := 3) (n := k) (F := F) (own_below h2 h0) h5), h5, fun r => ?_, h7, fun r => ?_⟩
  · obtain ⟨A, c, e, hr⟩ := h6 r
    exact ⟨A, c, e, (own_below hr h0).kept hg (h8 r)⟩
  · obtain ⟨A, c, e, hr⟩ := h6 r
    exact apart_new (own_below hr h0) (h8 r) (hloc.imp id fun h => ⟨_, h, Nat.le_refl _⟩)
/-- Behind 'members[root] = append(members[root], k)'. -/
theorem GA.store {A5 : Option Addr} {c5 L : Nat} (h : GA wr B b f kr k m A4 c4 F) (h0 : Below wr.heap.size wr w1) (hL : L = (memb f k (f k)).length)
    (hown : w2.ownsRow B 3 1 (.slice A5 (L + 1) c5) (L + 1) ((memb f k (f k)).map natI ++ [natI k])) (hg : w1.grownBy w2 (atK F (f k)).ownBlock)
    (hloc : (Value.slice A5 (L + 1) c5).ownBlock = (atK F (f k)).ownBlock ∨ (Value.slice A5 (L + 1) c5).ownBlock = some w1.heap.size)
    (hM : MapV w3 Try.prog 3 b (k + 1) (putF F (.int .i64 (f k : Nat)) (some (.slice A5 (L + 1) c5)))) (ho : Only (· = b) w2 w3) : GA w3 B b f kr (k + 1) m A4 c4 (putF F (.int .i64 (f k : Nat)) (some (.slice A5 (L + 1) c5))) := by
  obtain ⟨h1, h2, h3, h4, h5, h6, h7, h8⟩ := h
  have hb : ∀ j, B ≤ j → ¬ j = b := fun j hj => by omega
  have hl : ∀ (u : Value), ((Value.slice A5 (L + 1) c5).ownBlock = (atK F (f k)).ownBlock ∨ ∃ g, (Value.slice A5 (L + 1) c5).ownBlock = some g ∧ w1.heap.size ≤ g) := fun _ => hloc.imp id fun h => ⟨_, h, Nat.le_refl _⟩
  refine ⟨h1, own_only ((own_below h2 h0).kept hg ((h8 (f k)).symm)) ho hb, h3, hM, h5, fun r => ?_, fun r r' hrr => ?_, fun r => ?_⟩
  · by_cases hr : r = f k
    · subst hr
      rw [atK_put_same, memb_hit rfl]
      refine ⟨A5, c5, by rw [List.length_append, ← hL]; rfl, ?_⟩
      rw [List.length_append, ← hL, List.map_append]
      exact own_only hown ho hb
    · obtain ⟨A, c, e, ha⟩ := h6 r
      rw [atK_put_other F _ hr, memb_miss (fun e => hr e.symm)]
      exact ⟨A, c, e, own_only ((own_below ha h0).kept hg (h7 r (f k) hr)) ho hb⟩
  · by_cases hr : r = f k
    · have hr' : r' ≠ f k := fun e => hrr (hr.trans e.symm)
      rw [hr, atK_put_same, atK_put_other F _ hr']
      obtain ⟨A, c, e, ha⟩ := h6 r'
      exact (apart_new (own_below ha h0) (h7 r' (f k) hr') (hl undef)).symm
    · rw [atK_put_other F _ hr]
      by_cases hr' : r' = f k
      · rw [hr', atK_put_same]
        obtain ⟨A, c, e, ha⟩ := h6 r
        exact apart_new (own_below ha h0) (h7 r (f k) hr) (hl undef)
      · rw [atK_put_other F _ hr']
        exact h7 r r' hrr
  · by_cases hr : r = f k
    · rw [hr, atK_put_same]
      exact (apart_new (own_below h2 h0) ((h8 (f k)).symm) (hl undef)).symm
    · rw [atK_put_other F _ hr]
      exact h8 r
end
theorem GA.start (w : World) (f : Nat → Nat) : GA (w.alloc (.map #[] 0)) (w.heap.size + 1) w.heap.size f 0 0 0 none 0 (fun _ => none) :=
  ⟨rfl, own_nil _ _ _ _, by simp [maxLen], MapV.made w _ _, by omega, fun r => ⟨none, 0, rfl, own_nil _ _ _ _⟩, fun r r' _ => .inl rfl, fun r => .inl rfl⟩

/-- Groups come back in new memory; the partition is kept; of old memory only block g may have changed. -/
def RetG (w : World) (p g n : Nat) (f : Nat → Nat) (e : Ending) (w' : World) : Prop :=
  ∃ A c vs, e = .returned (.slice A (groupsI f n).length c) ∧ (groupsI f n).length ≤ c ∧ c ≤ maxLen ∧ w'.ownsRow w.heap.size 22 1 (.slice A (groupsI f n).length c) (groupsI f n).length vs ∧ RowsOf w' w.heap.size vs (groupsI f n) ∧ Ufs w' p g n f ∧ Only (· = g) w w'

theorem ufs_only {w w' : World} {p g n b0 : Nat} {f : Nat → Nat} (h : Ufs w p g n f) (ho : Only (fun j => b0 ≤ j) w w') (hp : p < b0) (hg : g < b0) : Ufs w' p g n f :=
  h.keep (ho.heap h.lt.1 (by omega)) (ho.heap h.lt.2 (by omega))

theorem natI_ints (l : List Nat) : l.map natI = (intsI l).map (Value.int .i64) := by simp [intsI, natI]
theorem GA.all {wr : World} {B b : Nat} {f : Nat → Nat} {n m : Nat} {A4 : Option Addr} {c4 : Nat} {F : Lit → Option Value} (h : GA wr B b f n n m A4 c4 F) : RowsOf wr B ((heads f n).map (atK F)) (groupsI f n) := by
  refine ⟨by simp [groupsI, groupsU], fun i v row hv hr => ?_⟩
  simp only [groupsI, groupsU, List.map_map, List.getElem?_map] at hv hr
  rcases hh : (heads f n)[i]? with _ | r
  · rw [hh] at hv
    cases hv
  · rw [hh] at hv hr
    simp only [Option.map_some, Option.some.injEq, Function.comp] at hv hr
    subst hv hr
    obtain ⟨A, c, e, ho⟩ := h.rows r
    rw [intsI_len, ← natI_ints]
    exact ⟨A, c, e, ho⟩
theorem run_mk0 {P : Program} {t e : TypeId} {z : Value} {size bytes : Nat} (ht : P.underlying t = some (.slice e)) (h : (P.info? e).map (fun i => (i.zero, i.size, i.bytes)) = some (some z, size, bytes)) (n : Nat) (hb : n * bytes ≤ 281474976710656) (hn : n ≤ 281474976710656) (w : World) :
    (Instr.makeSlice t (.int .i64 0) (.int .i64 (n : Int))).run P w = .ok (.slice (some ⟨w.heap.size, 0, none⟩) 0 n) (w.alloc (.cells (madeCells z.cells (n * size)) e)) := by
  obtain ⟨i, hi, h0, h1, h2⟩ := info_parts h
  have hb' : (i.bytes : Int) * (n : Int) ≤ 281474976710656 := by
    subst h2
    have h : ((n * i.bytes : Nat) : Int) ≤ 281474976710656 := by omega
    rwa [Int.natCast_mul, Int.mul_comm] at h
  have hr := run_make (P := P) w t e i z ht hi h0 .i64 .i64 0 n (by omega) (by omega) hb' (by omega)
  simp only [Int.toNat_natCast, h1] at hr
  exact hr

set_option maxHeartbeats 4000000 in
theorem ufgroups_any (p g n : Nat) (f : Nat → Nat) (w : World) (hn : n ≤ 10000) (hU : Ufs w p g n f) :
    Calls Try.prog 21 #[.pointer (some ⟨p, 0, none⟩)] w (RetG w p g n f) := by
  have hpl := hU.lt.1
  have hgl := hU.lt.2
  have HU := Lib.hid hU
  have HP := Lib.hid hU.part
  have hc0 : w.cell? ⟨p, 0, none⟩ = some (.slice (some ⟨g, 0, none⟩) n n) := by
    obtain ⟨par, _, _, _, hV, _⟩ := hU
    rw [hV.cell]
    rfl
  have hmm := @run_makeMap Try.prog
  clear hU
  go_enter Try.func21, Try.ntmps21
  go_wp2
  go_loopw [4, 16] (fun s4 s16 wr => ∃ (k m : Nat) (A4 : Option Addr) (c4 : Nat) (F : Lit → Option Value), k ≤ n ∧ m ≤ k ∧ s16 = .int .i64 k ∧ s4 = .slice A4 m c4 ∧ Hid (GA wr (w.heap.size + 1) w.heap.size f k k m A4 c4 F) ∧ Hid (Ufs wr p g n f) ∧ Only (· = g) w wr) (fun _ i _ => n - (intOf i).toNat)
  case atStart => exact ⟨0, 0, none, 0, fun _ => none, by omega, by omega, rfl, rfl, Lib.hid (GA.start w f), Lib.hid (HU.out.below (b_alloc (Below.refl _ _) _)), (Only.refl _ _).alloc _⟩
  case round =>
    obtain ⟨k, m, A4, c4, F, hk, hmk, rfl, rfl, HG, HUr, hO⟩ := hrel
    have hzr := hO.size
    by_cases hlt : k < n
    · go_wp2_with fail
      refine (find_any p g n f k _ hn hlt HUr.out).mono ?_
      rintro e w1 ⟨rfl, U1, O1⟩
      have U1 := Lib.hid U1
      have hfl := HP.out.lt hlt
      have G1 := Lib.hid (HG.out.only O1 (by intro j hj; omega))
      have hO1 := hO.trans O1
      have hz1 := hO1.size
      clear HG HUr
      by_cases hf : f k = k
      · have hq : ((f k : Int) == (k : Int)) = true := by simp; omega
        have hf' := Lib.hid hf
        clear hf
        go_wp2_with (first
          | (at_builtin
             refine wpList_app _ rfl (.tmp 25) (.tmp 27) slInts rfl rfl (G1.out.roots.alloc _) rfl (rd_lit _ _ _ rfl rfl) (by intro u hu; simp at hu; subst hu; rfl) (m + 1) rfl (by unfold maxLen; omega) (by omega) (by simp; omega) ?_
             intro A7 c7 w2 e1 e2 e3 e4 e5
             have e3' : w2.ownsRow (w.heap.size + 1) 3 1 (.slice A7 (m + 1) c7) (m + 1) ((heads f k).map natI ++ [natI k]) := by
               have h := e3
               rw [hf'.out] at h
               exact h
             have G2 := Lib.hid (G1.out.hit hf'.out (b_alloc (Below.refl _ _) _) e3' e4 ⟨e1, e2⟩ e5)
             have OB := Lib.hid (show Only (fun j => w.heap.size ≤ j) w1 w2 from ((Only.refl _ w1).alloc _).grown e4 (fun i e => .inl (by have := (G1.out.roots.lt i e).1; omega)))
             have hz2 := OB.out.size
             clear e1 e2 e3 e3' e4 e5
             obtain ⟨A5, c5, he, ho5⟩ := G2.out.rows (f k)
             have HE := Lib.hid he
             have HO5 := Lib.hid ho5
             have hL := memb_len f k (f k)
             obtain ⟨L, hLe⟩ : ∃ L, (memb f k (f k)).length = L := ⟨_, rfl⟩
             rw [hLe] at hL he ho5
             have HL := Lib.hid hLe.symm
             have HE := Lib.hid he
             have HO5 := Lib.hid (he ▸ ho5)
             clear he ho5 hLe G1)
          | (at_lookup; refine wpList_lookV _ rfl (.tmp 31) (.tmp 32) 47 rfl keyInt Try.underlying47 (zeroSl _) rfl G2.out.map rfl (keyN (by omega)) HE.out ?_)
          | (at_builtin; refine wpList_app _ rfl (.tmp 33) (.tmp 35) slInts rfl rfl (HO5.out.alloc _) rfl (rd_lit _ _ _ rfl rfl) (by intro u hu; simp at hu; subst hu; rfl) (L + 1) rfl (by unfold maxLen; omega) (by omega) (by simp; omega) ?_; intro A6 c6 w3 g1 g2 g3 g4 g5)
          | (at_mapUpdate; refine wpList_storeV _ rfl (.tmp 29) (.tmp 30) (.tmp 36) 47 rfl keyInt Try.underlying47 rfl ((G2.out.map.alloc _).kept g4 (MapV.not_own (P := Try.prog) (w := w2) (k := 3) (n := k) (F := F) HO5.out (by omega))) (by unfold maxLen; omega) rfl rfl (keyN (by omega)) ?_; intro w4 m1 m2))
        have g4' : (w2.alloc (.cells #[.int .i64 (k : Int)] 3)).grownBy w3 (atK F (f k)).ownBlock := by rw [HE.out]; exact g4
        have g5' : (Value.slice A6 (L + 1) c6).ownBlock = (atK F (f k)).ownBlock ∨ (Value.slice A6 (L + 1) c6).ownBlock = some (w2.alloc (.cells #[.int .i64 (k : Int)] 3)).heap.size := by rw [HE.out]; exact g5
        have GF := Lib.hid (G2.out.store (b_alloc (Below.refl _ _) _) HL.out g3 g4' g5' m1 m2)
        have OA : Only (fun j => w.heap.size ≤ j) w1 w4 := ((OB.out.alloc _).grown g4 (fun i e => .inl (by have := (HO5.out.lt i e).1; omega))).step m2 (fun i hi h => by omega)
        have UF := Lib.hid (ufs_only U1.out OA hpl hgl)
        have OF := hO1.step OA (fun i hi h => by omega)
        clear OB g1 g2 g3 g4 g5 g4' g5' m1 m2 OA G2 HE HO5 HL
        go_roundw
        case rel => exact ⟨k + 1, m + 1, A7, c7, _, by omega, by omega, by go_num, rfl, GF, UF, OF⟩
        case measure => simp [intOf]; omega
      · have hq : ((f k : Int) == (k : Int)) = false := by simp; omega
        have G2 := Lib.hid (G1.out.miss hf)
        obtain ⟨A5, c5, he, ho5⟩ := G2.out.rows (f k)
        have HE := Lib.hid he
        have HO5 := Lib.hid ho5
        have hL := memb_len f k (f k)
        obtain ⟨L, hLe⟩ : ∃ L, (memb f k (f k)).length = L := ⟨_, rfl⟩
        rw [hLe] at hL he ho5
        have HL := Lib.hid hLe.symm
        have HE := Lib.hid he
        have HO5 := Lib.hid (he ▸ ho5)
        clear hf he ho5 hLe G1
        go_wp2_with (first
          | (at_lookup; refine wpList_lookV _ rfl (.tmp 31) (.tmp 32) 47 rfl keyInt Try.underlying47 (zeroSl _) rfl G2.out.map rfl (keyN (by omega)) HE.out ?_)
          | (at_builtin; refine wpList_app _ rfl (.tmp 33) (.tmp 35) slInts rfl rfl (HO5.out.alloc _) rfl (rd_lit _ _ _ rfl rfl) (by intro u hu; simp at hu; subst hu; rfl) (L + 1) rfl (by unfold maxLen; omega) (by omega) (by simp; omega) ?_; intro A6 c6 w3 g1 g2 g3 g4 g5)
          | (at_mapUpdate; refine wpList_storeV _ rfl (.tmp 29) (.tmp 30) (.tmp 36) 47 rfl keyInt Try.underlying47 rfl ((G2.out.map.alloc _).kept g4 (MapV.not_own (P := Try.prog) (w := w1) (k := 3) (n := k) (F := F) HO5.out (by omega))) (by unfold maxLen; omega) rfl rfl (keyN (by omega)) ?_; intro w4 m1 m2))
        have g4' : (w1.alloc (.cells #[.int .i64 (k : Int)] 3)).grownBy w3 (atK F (f k)).ownBlock := by rw [HE.out]; exact g4
        have g5' : (Value.slice A6 (L + 1) c6).ownBlock = (atK F (f k)).ownBlock ∨ (Value.slice A6 (L + 1) c6).ownBlock = some (w1.alloc (.cells #[.int .i64 (k : Int)] 3)).heap.size := by rw [HE.out]; exact g5
        have GF := Lib.hid (G2.out.store (b_alloc (Below.refl _ _) _) HL.out g3 g4' g5' m1 m2)
        have OA : Only (fun j => w.heap.size ≤ j) w1 w4 := (((Only.refl _ w1).alloc _).grown g4 (fun i e => .inl (by have := (HO5.out.lt i e).1; omega))).step m2 (fun i hi h => by omega)
        have UF := Lib.hid (ufs_only U1.out OA hpl hgl)
        have OF := hO1.step OA (fun i hi h => by omega)
        clear g1 g2 g3 g4 g5 g4' g5' m1 m2 OA G2 HE HO5 HL
        go_roundw
        case rel => exact ⟨k + 1, m, A4, c4, _, by omega, by omega, by go_num, rfl, GF, UF, OF⟩
        case measure => simp [intOf]; omega
    · obtain rfl : n = k := by omega
      obtain ⟨Z, rfl⟩ : ∃ Z : World, Z = wr := ⟨_, rfl⟩
      have HMM := Lib.hid (show m = (groupsI f n).length from by rw [groupsI_len]; exact HG.out.hm)
      have hmk := fun W => run_mk0 (P := Try.prog) (z := .slice none 0 0) (size := 1) (bytes := 24) Try.underlying27 (by kernel_rfl) m (by omega) (by omega) W
      have O0 := Lib.hid (show (Z.alloc (.cells (madeCells #[Value.slice none 0 0] (m * 1)) 22)).ownsRow Z.heap.size 22 1 (.slice (some ⟨Z.heap.size, 0, none⟩) 0 m) 0 [] from
        own_shut (Nat.le_refl _) (Vr.new Z _ _) (by simp) (by simp) (Nat.zero_le _) (by unfold maxLen; omega) (by simp [size_madeCells]))
      have HLN := Lib.hid (show (heads f n).length = m from HG.out.hm.symm)
      go_wp2
      go_loopw [7, 43] (fun s7 s43 Y => ∃ (j : Nat) (A5 : Option Addr) (c5 : Nat), j ≤ m ∧ s43 = .int .i64 j ∧ s7 = .slice A5 j c5 ∧ Hid (Y.ownsRow Z.heap.size 22 1 (.slice A5 j c5) j (((heads f n).map (atK F)).take j)) ∧ j ≤ c5 ∧ c5 ≤ maxLen ∧ Below Z.heap.size Z Y) (fun _ i _ => m - (intOf i).toNat)
      case atStart => exact ⟨0, some ⟨Z.heap.size, 0, none⟩, m, by omega, rfl, rfl, Lib.hid (by simpa using O0.out), by omega, by unfold maxLen; omega, b_alloc (Below.refl _ _) _⟩
      case round =>
        obtain ⟨j, A5, c5, hj, rfl, rfl, HO, hc5, hm5, hBY⟩ := hrel
        have hzY := hBY.size
        by_cases hjm : j < m
        · obtain ⟨b, o, hl, rfl, hb, hcell⟩ := ((rd_own HG.out.roots).below hBY (Nat.le_refl _)).openMap hjm
          have ET := Lib.hid (map_take_snoc (atK F) hl 0)
          have E0 := Lib.hid (show (heads f n).getD j 0 = (heads f n)[j] from by simp [List.getD_eq_getElem?_getD, hl])
          have hr := (mem_heads.1 (List.getElem_mem hl)).1
          obtain ⟨r, hre⟩ : ∃ r, (heads f n)[j] = r := ⟨_, rfl⟩
          rw [hre] at hcell E0 hr
          unfold natI at hcell
          clear hre
          obtain ⟨A6, c6, he, ho⟩ := HG.out.rows r
          obtain ⟨L, hLe⟩ : ∃ L, (memb f n r).length = L := ⟨_, rfl⟩
          rw [hLe] at he
          have HE := Lib.hid he
          clear he ho hLe
          go_wp2_with (first
            | (at_lookup; refine wpList_lookV _ rfl (.tmp 48) (.tmp 49) 47 rfl keyInt Try.underlying47 (zeroSl _) rfl (HG.out.map.call hBY) rfl (keyN (by omega)) HE.out ?_)
            | (at_builtin; refine wpList_app _ rfl (.tmp 47) (.tmp 51) slRows rfl rfl (HO.out.alloc _) rfl (rd_lit _ _ _ rfl rfl) (by intro u hu; simp at hu; subst hu; rfl) (j + 1) rfl (by unfold maxLen; omega) (by omega) (by simp; omega) ?_; intro A7 c7 w3 g1 g2 g3 g4 g5))
          go_roundw
          case rel => exact ⟨j + 1, A7, c7, by omega, by go_num, rfl, Lib.hid (by rw [ET.out, E0.out, HE.out]; exact g3), g1, g2, below_app (b_alloc hBY _) (HO.out.alloc _) g4 (Nat.le_refl _) (by simp; omega)⟩
          case measure => simp [intOf]; omega
        · obtain rfl : m = j := by omega
          have ET := Lib.hid (show ((heads f n).map (atK F)).take m = (heads f n).map (atK F) from by rw [List.take_of_length_le (by rw [List.length_map, HLN.out]; omega)])
          go_wp2
          go_ret
          exact ⟨A5, c5, _, by rw [← HMM.out]; rfl, by rw [← HMM.out]; exact hc5, hm5, by rw [← HMM.out]; exact own_mono HO.out hzr, by rw [ET.out]; exact (HG.out.all.below hBY).mono (by omega), HUr.out.below hBY, hO.step (Only.of_below hBY (fun j => Z.heap.size ≤ j) (fun k h _ => h)) (fun i hi h => by omega)⟩
end Go.Proofs.Ytjmhibjkbnbefaa
