/-
  WHAT IS PROVED HERE: the contracts of journal's readLength and of slices.Clone at bytes. No condition but bounds that every machine's lengths meet.
-/
import Derived.Test.YtmoajnekegbncaaHlpF
import Derived.Test.YtmoajnekegbncaaJnP
namespace Go.Proofs.Ytmoajnekegbncaa
set_option linter.unusedVariables false
open Go.ChangeShapes Go.WideShapes Go.ChangeAt Go.RowKit

theorem and127 {b : Int} (h0 : 0 ≤ b) (h1 : b ≤ 255) : bits .and .u8 b 127 = b % 128 := by
  obtain ⟨B, rfl⟩ := Int.eq_ofNat_of_zero_le h0
  have e : bits .and .u8 (B : Int) 127 = IntKind.u8.wrap ((BitVec.ofInt 8 (B : Int) &&& BitVec.ofInt 8 127).toNat : Int) := rfl
  have h2 : B ≤ 255 := by omega
  rw [e, BitVec.ofInt_natCast, BitVec.toNat_and, BitVec.toNat_ofNat, Nat.mod_eq_of_lt (by omega)]
  rw [show (BitVec.ofInt 8 127).toNat = 2 ^ 7 - 1 from rfl, Nat.and_two_pow_sub_one_eq_mod, IntKind.wrap_u8]
  omega
theorem or128 {b : Int} (h0 : 0 ≤ b) (h1 : b ≤ 255) : bits .or .u8 b 128 = b % 128 + 128 := by
  obtain ⟨B, rfl⟩ := Int.eq_ofNat_of_zero_le h0
  have e : bits .or .u8 (B : Int) 128 = IntKind.u8.wrap ((BitVec.ofInt 8 (B : Int) ||| BitVec.ofInt 8 128).toNat : Int) := rfl
  have h2 : B < 256 := by omega
  have h3 : B ||| 128 = B % 128 + 128 := by
    by_cases h : B < 128
    · have := Nat.two_pow_add_eq_or_of_lt (i := 7) h 1
      rw [Nat.or_comm, show (128 : Nat) = 2 ^ 7 * 1 from rfl, ← this]
      omega
    · obtain ⟨r, rfl⟩ : ∃ r, B = 2 ^ 7 * 1 + r := ⟨B - 128, by omega⟩
      rw [Nat.two_pow_add_eq_or_of_lt (i := 7) (by omega) 1, Nat.or_comm (2 ^ 7 * 1) r, Nat.or_assoc, show (2 ^ 7 * 1 ||| 128 : Nat) = 2 ^ 7 * 1 from rfl, Nat.or_comm, ← Nat.two_pow_add_eq_or_of_lt (i := 7) (by omega) 1]
      omega
  rw [e, BitVec.ofInt_natCast, BitVec.toNat_or, BitVec.toNat_ofNat, Nat.mod_eq_of_lt (by omega)]
  rw [show (BitVec.ofInt 8 128).toNat = 128 from rfl, h3, IntKind.wrap_u8]
  omega
theorem or_zero {a : Int} (h : 0 ≤ a ∧ a ≤ 4611686018427387904) : bits .or .i64 0 a = a := by
  obtain ⟨A, rfl⟩ := Int.eq_ofNat_of_zero_le h.1
  have e : bits .or .i64 0 (A : Int) = IntKind.i64.wrap ((BitVec.ofInt 64 0 ||| BitVec.ofInt 64 (A : Int)).toNat : Int) := rfl
  rw [e, BitVec.ofInt_natCast, BitVec.toNat_or, BitVec.toNat_ofNat, Nat.mod_eq_of_lt (by omega)]
  rw [show (BitVec.ofInt 64 0).toNat = 0 from rfl, Nat.zero_or]
  exact IntWalk.i64_in _ (by omega)
theorem or_add {a c : Int} (h : 0 ≤ a ∧ a < 128) (hc : 0 ≤ c ∧ c ≤ 1000000) : bits .or .i64 a (c * 128) = a + 128 * c := by
  obtain ⟨A, rfl⟩ := Int.eq_ofNat_of_zero_le h.1
  obtain ⟨C, rfl⟩ := Int.eq_ofNat_of_zero_le hc.1
  have e : bits .or .i64 (A : Int) ((C : Int) * 128) = IntKind.i64.wrap ((BitVec.ofInt 64 (A : Int) ||| BitVec.ofInt 64 ((C * 128 : Nat) : Int)).toNat : Int) := rfl
  have hs : 2 ^ 7 * C + A = 2 ^ 7 * C ||| A := Nat.two_pow_add_eq_or_of_lt (by omega) C
  rw [e, BitVec.ofInt_natCast, BitVec.ofInt_natCast, BitVec.toNat_or, BitVec.toNat_ofNat, BitVec.toNat_ofNat, Nat.mod_eq_of_lt (by omega), Nat.mod_eq_of_lt (by omega), Nat.or_comm, show C * 128 = 2 ^ 7 * C from by omega, ← hs]
  rw [IntWalk.i64_in _ (by omega)]
  omega
/-- What readLength returns. -/
def lenV (L : List Int) : Value := .tuple #[.int .i64 (lenI L).1, .int .i64 (lenI L).2.1, .int .i64 (lenI L).2.2]
theorem rd_at {w : World} {B n : Nat} {A : Option Addr} {L : List Int} (h : Rd w B 1 A n (L.map (Value.int .u8))) : ∃ b o, (L ≠ [] → A = some ⟨b, o, none⟩ ∧ b < B) ∧ ∀ k (hk : k < L.length), w.cell? ⟨b, o + k, none⟩ = some (.int .u8 L[k]) := by
  rcases L with _ | ⟨x, L⟩
  · exact ⟨0, 0, fun h => absurd rfl h, fun k hk => by cases hk⟩
  · obtain ⟨b, o, e, hb, hc⟩ := h.2 (by simp)
    exact ⟨b, o, fun _ => ⟨e, hb⟩, fun k hk => hc k _ (by rw [List.getElem?_map, List.getElem?_eq_getElem hk]; rfl)⟩
set_option maxHeartbeats 1000000 in
theorem readlen_any (A : Option Addr) (n c : Nat) (L : List Int) (hL : Bytes L) (w : World) (rd : Rd w w.heap.size 1 A n (L.map (Value.int .u8))) (hn : n ≤ 4611686018427387904) :
    Calls Try.prog 34 #[.slice A n c] w fun e w' => e = .returned (lenV L) ∧ w = w' := by
  have hl : L.length = n := by have := rd.1; simpa using this
  obtain ⟨b, o, hA, hc⟩ := rd_at rd
  clear rd
  rcases L with _ | ⟨x, L⟩
  · subst hl
    go_enter Try.func34, Try.ntmps34
    go_wp2
    refine wp_loop_rounds 1 ?_
    rw [rounds_succ]
    go_wp2
    exact bodyPost_ret (v := lenV []) (by simp [results, Try.results34, go_sem, lenV, lenI]) rfl ⟨rfl, rfl⟩
  · obtain ⟨rfl, hb⟩ := hA (by simp)
    obtain ⟨hx0, hx1⟩ := hL x (List.mem_cons_self ..)
    have x0 := hc 0 (by simp)
    simp only [List.getElem_cons_zero, Nat.add_zero] at x0
    have h1 : 0 < n := by rw [← hl]; simp
    by_cases h7 : x < 128
    · have h0' : ((0 : Int) == (n : Int)) = false := by rw [beq_eq_false_iff_ne]; omega
      have a1 : bits .and .u8 x 127 = x := by rw [and127 hx0 hx1]; omega
      have a2 : bits .or .i64 0 x = x := or_zero (by omega)
      have HR := Lib.hid (show lenV (x :: L) = .tuple #[.int .i64 x, .int .i64 1, .int .i64 0] from by
        unfold lenV
        rcases L with _ | ⟨y, L⟩
        · simp only [lenI, if_pos h7]
          rw [Int.toNat_of_nonneg (by omega)]; rfl
        · simp only [lenI, if_pos h7]
          rw [Int.toNat_of_nonneg (by omega)]; rfl)
      have HL := Lib.hid hl
      clear hl hc hL hA
      go_enter Try.func34, Try.ntmps34
      go_wp2
      refine wp_loop_rounds 1 ?_
      rw [rounds_succ]
      go_wp2
      exact bodyPost_ret (v := .tuple #[.int .i64 x, .int .i64 1, .int .i64 0]) (by simp [results, Try.results34, go_sem]) rfl ⟨by rw [HR.out], rfl⟩
    · have h0' : ((0 : Int) == (n : Int)) = false := by rw [beq_eq_false_iff_ne]; omega
      have a1 : bits .and .u8 x 127 = x - 128 := by rw [and127 hx0 hx1]; omega
      have a2 : bits .or .i64 0 (x - 128) = x - 128 := or_zero (by omega)
      rcases L with _ | ⟨y, L⟩
      · have HR := Lib.hid (show lenV [x] = .tuple #[.int .i64 0, .int .i64 0, .int .i64 25] from by
          unfold lenV
          simp only [lenI, if_neg h7]
          rfl)
        have h1' : ((1 : Int) == (n : Int)) = true := by rw [← hl]; rfl
        clear hl hc hL hA
        go_enter Try.func34, Try.ntmps34
        go_wp2
        refine wp_loop_rounds 2 ?_
        rw [rounds_succ]
        go_wp2
        rw [rounds_succ]
        go_wp2
        exact bodyPost_ret (v := .tuple #[.int .i64 0, .int .i64 0, .int .i64 25]) (by simp [results, Try.results34, go_sem]) rfl ⟨by rw [HR.out], rfl⟩
      · obtain ⟨hy0, hy1⟩ := hL y (List.mem_cons_of_mem _ (List.mem_cons_self ..))
        have y0 := hc 1 (by simp)
        simp only [List.getElem_cons_succ, List.getElem_cons_zero] at y0
        have h2 : 1 < n := by rw [← hl]; simp
        have h1' : ((1 : Int) == (n : Int)) = false := by rw [beq_eq_false_iff_ne]; omega
        have b1 : bits .and .u8 y 127 = y % 128 := and127 hy0 hy1
        have b2 : bits .or .i64 (x - 128) (y % 128 * 128) = x - 128 + 128 * (y % 128) := or_add (by omega) (by omega)
        have b3 : 0 ≤ y % 128 := by omega
        have b4 : y % 128 < 128 := by omega
        clear hl hc hL hA
        by_cases hz : 128 ≤ y
        · have HR := Lib.hid (show lenV (x :: y :: L) = .tuple #[.int .i64 0, .int .i64 0, .int .i64 8] from by
            unfold lenV
            simp only [lenI, if_neg h7, if_pos hz]
            rfl)
          go_enter Try.func34, Try.ntmps34
          go_wp2
          refine wp_loop_rounds 3 ?_
          rw [rounds_succ]
          go_wp2
          rw [rounds_succ]
          go_wp2
          rw [rounds_succ]
          go_wp2
          exact bodyPost_ret (v := .tuple #[.int .i64 0, .int .i64 0, .int .i64 8]) (by simp [results, Try.results34, go_sem]) rfl ⟨by rw [HR.out], rfl⟩
        · have e1 : y % 128 = y := by omega
          rw [e1] at b1 b2
          clear b3 b4 e1
          by_cases hz0 : y = 0
          · subst hz0
            have HR := Lib.hid (show lenV (x :: 0 :: L) = .tuple #[.int .i64 0, .int .i64 0, .int .i64 8] from by
              unfold lenV
              simp only [lenI, if_neg h7, if_neg hz, true_or, if_true]
              rfl)
            go_enter Try.func34, Try.ntmps34
            go_wp2
            refine wp_loop_rounds 2 ?_
            rw [rounds_succ]
            go_wp2
            rw [rounds_succ]
            go_wp2
            exact bodyPost_ret (v := .tuple #[.int .i64 0, .int .i64 0, .int .i64 8]) (by simp [results, Try.results34, go_sem]) rfl ⟨by rw [HR.out], rfl⟩
          · have hz1 : (y == 0) = false := by rw [beq_eq_false_iff_ne]; exact hz0
            by_cases hb4 : 4000 < x - 128 + 128 * y
            · have HR := Lib.hid (show lenV (x :: y :: L) = .tuple #[.int .i64 0, .int .i64 0, .int .i64 8] from by
                unfold lenV
                simp only [lenI, if_neg h7, if_neg hz, hb4, or_true, if_true]
                rfl)
              have hb5 : decide (4000 < x - 128 + 128 * y) = true := by simpa using hb4
              go_enter Try.func34, Try.ntmps34
              go_wp2
              refine wp_loop_rounds 2 ?_
              rw [rounds_succ]
              go_wp2
              rw [rounds_succ]
              go_wp2
              exact bodyPost_ret (v := .tuple #[.int .i64 0, .int .i64 0, .int .i64 8]) (by simp [results, Try.results34, go_sem]) rfl ⟨by rw [HR.out], rfl⟩
            · have HR := Lib.hid (show lenV (x :: y :: L) = .tuple #[.int .i64 (x - 128 + 128 * y), .int .i64 2, .int .i64 0] from by
                unfold lenV
                simp only [lenI, if_neg h7, if_neg hz, hb4, hz0, or_false, if_false]
                rw [Int.toNat_of_nonneg (by omega)]
                rfl)
              have hb5 : decide (4000 < x - 128 + 128 * y) = false := by simpa using hb4
              go_enter Try.func34, Try.ntmps34
              go_wp2
              refine wp_loop_rounds 2 ?_
              rw [rounds_succ]
              go_wp2
              rw [rounds_succ]
              go_wp2
              exact bodyPost_ret (v := .tuple #[.int .i64 (x - 128 + 128 * y), .int .i64 2, .int .i64 0]) (by simp [results, Try.results34, go_sem]) rfl ⟨by rw [HR.out], rfl⟩
theorem own_lit0 (w : World) (e : TypeId) (sz : Nat) : (w.alloc (.cells #[] e)).ownsRow w.heap.size e sz (.slice (some ⟨w.heap.size, 0, none⟩) 0 0) 0 [] :=
  own_shut (Nat.le_refl _) (Vr.new w e #[]) (by simp) (by simp) (by omega) (by simp [maxLen]) (by simp)
theorem run_nil_slice (A : Option Addr) (n c : Nat) (w : World) : (binOp .eql 27 (.slice A n c) (.slice none 0 0)).run Try.prog w = .ok (.bool A.isNone) w := by
  have h : ∀ d : Nat, (Op.equalIn (d + 1) 27 (.slice A n c) (.slice none 0 0)).run Try.prog w = .ok A.isNone w := fun d => by
    rcases A with _ | a <;> simp [Op.equalIn, run_underlying Try.underlying27]
  simp only [binOp]
  simp [Op.equal, Op.maxDepth, h 9999]
set_option maxHeartbeats 1000000 in
theorem clone_any (A : Option Addr) (n c : Nat) (L : List Int) (w : World) (rd : Rd w w.heap.size 1 A n (L.map (Value.int .u8))) (hn : n ≤ 140737488355328) :
    Calls Try.prog 24 #[.slice A n c] w (RetSl w 5 1 n (L.map (Value.int .u8))) := by
  have hl : L.length = n := by have := rd.1; simpa using this
  rcases A with _ | ad
  · have hL : L = [] := by
      rcases L with _ | ⟨x, L⟩
      · rfl
      · obtain ⟨b, o, e, _⟩ := rd.2 (by simp)
        cases e
    subst hL
    obtain rfl : n = 0 := by simpa using hl.symm
    clear rd hl
    have hq := fun (W : World) => run_nil_slice none 0 c W
    simp only [Option.isNone_none] at hq
    go_enter Try.func24, Try.ntmps24
    go_wp2
    go_ret
    exact ⟨none, 0, rfl, by omega, by simp [maxLen], own_nil _ _ _ _, Below.refl _ _⟩
  · have RD := Lib.hid rd
    clear rd hl
    have hq := fun (W : World) => run_nil_slice (some ad) n c W
    simp only [Option.isNone_some] at hq
    go_enter Try.func24, Try.ntmps24
    go_wp2_with (at_builtin; refine wpList_app _ rfl (.tmp 5) (.tmp 6) slBytes rfl rfl (own_lit0 w 5 1) (A := some ad) (m := n) (c := c) rfl (rd_step RD.out (b_alloc (Below.refl _ _) _)) (ints_one _ _) n (Nat.zero_add _) (by unfold maxLen; omega) (by omega) (by simp) ?_; intro A' c' w' g1 g2 g3 g4 _)
    go_ret
    exact ⟨A', c', rfl, g1, g2, g3, below_app (b_alloc (Below.refl _ _) _) (own_lit0 w 5 1) g4 (Nat.le_refl _) (by simp)⟩
end Go.Proofs.Ytmoajnekegbncaa
