/-
  WHAT IS PROVED HERE: plain facts on the mixing step and on little-endian words. No program, no condition beyond what each theorem states.
-/
import Derived.Laws.BitsAllLaws
import Derived.Laws.BitsLemmas
namespace Go.Proofs.Ytgelhcgaacnjcaa
set_option linter.unusedVariables false

def U64 (x : Int) : Prop := 0 ≤ x ∧ x < 18446744073709551616
def mixB (s w : BitVec 64) : BitVec 64 := ((s ^^^ w) * 11400714819323198485#64) ^^^ (((s ^^^ w) * 11400714819323198485#64) >>> 32)
@[irreducible] def mixI (s w : Int) : Int := ((mixB (BitVec.ofInt 64 s) (BitVec.ofInt 64 w)).toNat : Int)
theorem bits_xor (a b : BitVec 64) : bits .xor .u64 (a.toNat : Int) (b.toNat : Int) = ((a ^^^ b).toNat : Int) := by
  have h : bits .xor .u64 (a.toNat : Int) (b.toNat : Int) = IntKind.u64.wrap ((BitVec.ofInt 64 (a.toNat : Int) ^^^ BitVec.ofInt 64 (b.toNat : Int)).toNat : Int) := rfl
  rw [h, BitVec.ofInt_natCast, BitVec.ofInt_natCast, BitVec.ofNat_toNat, BitVec.ofNat_toNat, BitVec.setWidth_eq, BitVec.setWidth_eq, IntKind.wrap_u64]
  have := (a ^^^ b).isLt
  omega
theorem toNat_ofInt {s : Int} (hs : U64 s) : ((BitVec.ofInt 64 s).toNat : Int) = s := by
  unfold U64 at hs
  rw [BitVec.toNat_ofInt]
  omega
/-- what the walk writes for the mixing step -/
theorem mix_eq {s x : Int} (hs : U64 s) (hx : U64 x) : bits .xor .u64 (IntKind.u64.wrap (bits .xor .u64 s x * 11400714819323198485)) (IntKind.u64.wrap (bits .xor .u64 s x * 11400714819323198485) / 4294967296) = mixI s x := by
  have h1 : bits .xor .u64 s x = ((BitVec.ofInt 64 s ^^^ BitVec.ofInt 64 x).toNat : Int) := by
    rw [← bits_xor, toNat_ofInt hs, toNat_ofInt hx]
  rw [h1]
  unfold mixI mixB
  generalize BitVec.ofInt 64 s ^^^ BitVec.ofInt 64 x = A
  have h2 : IntKind.u64.wrap ((A.toNat : Int) * 11400714819323198485) = ((A * 11400714819323198485#64).toNat : Int) := by
    rw [BitVec.toNat_mul, IntKind.wrap_u64]
    rfl
  rw [h2]
  generalize A * 11400714819323198485#64 = M
  have h3 : (M.toNat : Int) / (4294967296 : Int) = ((M >>> 32).toNat : Int) := by
    rw [BitVec.toNat_ushiftRight, Nat.shiftRight_eq_div_pow]
    omega
  rw [h3, bits_xor]
/-- what the walk writes for the reference's -/
theorem refmix_eq {s x : Int} (hs : U64 s) (hx : U64 x) : bits .xor .u64 (IntKind.u64.wrap (bits .xor .u64 s x * 11400714819323198485)) (IntKind.u64.wrap ((IntKind.u64.wrap (bits .xor .u64 s x * 11400714819323198485)).tdiv 4294967296)) = mixI s x := by
  have h0 : 0 ≤ IntKind.u64.wrap (bits .xor .u64 s x * 11400714819323198485) ∧ IntKind.u64.wrap (bits .xor .u64 s x * 11400714819323198485) < 18446744073709551616 := by
    rw [IntKind.wrap_u64]
    omega
  rw [← mix_eq hs hx]
  generalize IntKind.u64.wrap (bits .xor .u64 s x * 11400714819323198485) = m at h0
  rw [Int.tdiv_eq_ediv_of_nonneg h0.1, IntKind.wrap_u64]
  congr 1
  omega
theorem mixI_u64 (s w : Int) : U64 (mixI s w) := by
  unfold mixI U64
  have := (mixB (BitVec.ofInt 64 s) (BitVec.ofInt 64 w)).isLt
  omega
theorem xorshift_inj {a b : BitVec 64} (h : a ^^^ (a >>> 32) = b ^^^ (b >>> 32)) : a = b := by
  have key : ∀ m : BitVec 64, (m ^^^ (m >>> 32)) ^^^ ((m ^^^ (m >>> 32)) >>> 32) = m := by
    intro m
    have h0 : m >>> 32 >>> 32 = 0#64 := by
      rw [← BitVec.shiftRight_add]
      apply BitVec.eq_of_toNat_eq
      simp [BitVec.toNat_ushiftRight]
      rw [Nat.shiftRight_eq_div_pow]
      exact Nat.div_eq_of_lt m.isLt
    rw [BitVec.ushiftRight_xor_distrib, h0, BitVec.xor_zero, BitVec.xor_assoc, BitVec.xor_self, BitVec.xor_zero]
  rw [← key a, ← key b, h]
theorem factor_inj {a b : BitVec 64} (h : a * 11400714819323198485#64 = b * 11400714819323198485#64) : a = b := by
  have key : ∀ m : BitVec 64, m * 11400714819323198485#64 * 17428512612931826493#64 = m := by
    intro m
    rw [BitVec.mul_assoc, show (11400714819323198485#64 * 17428512612931826493#64 : BitVec 64) = 1#64 from by decide, BitVec.mul_one]
  rw [← key a, ← key b, h]
theorem mixB_right {s w w' : BitVec 64} (h : mixB s w = mixB s w') : w = w' := by
  have h1 := factor_inj (xorshift_inj h)
  have h2 := congrArg (fun x => s ^^^ x) h1
  simp only [← BitVec.xor_assoc, BitVec.xor_self, BitVec.zero_xor] at h2
  exact h2
theorem mixB_left {s s' w : BitVec 64} (h : mixB s w = mixB s' w) : s = s' := by
  have h1 := factor_inj (xorshift_inj h)
  have h2 := congrArg (fun x => x ^^^ w) h1
  simp only [BitVec.xor_assoc, BitVec.xor_self, BitVec.xor_zero] at h2
  exact h2
theorem ofInt_inj {a b : Int} (ha : U64 a) (hb : U64 b) (h : BitVec.ofInt 64 a = BitVec.ofInt 64 b) : a = b := by
  unfold U64 at ha hb
  have h1 := congrArg BitVec.toNat h
  simp only [BitVec.toNat_ofInt] at h1
  omega
theorem mixI_right {s w w' : Int} (hw : U64 w) (hw' : U64 w') (h : mixI s w = mixI s w') : w = w' := by
  unfold mixI at h
  exact ofInt_inj hw hw' (mixB_right (BitVec.eq_of_toNat_eq (Int.ofNat.inj h)))
theorem mixI_left {s s' w : Int} (hs : U64 s) (hs' : U64 s') (h : mixI s w = mixI s' w) : s = s' := by
  unfold mixI at h
  exact ofInt_inj hs hs' (mixB_left (BitVec.eq_of_toNat_eq (Int.ofNat.inj h)))

/-- the words absorbed one after another -/
def absorb (s : Int) (ws : List Int) : Int := ws.foldl mixI s
theorem absorb_u64 {s : Int} (hs : U64 s) (ws : List Int) : U64 (absorb s ws) := by
  induction ws generalizing s with
  | nil => exact hs
  | cons w ws ih => exact ih (mixI_u64 s w)
theorem absorb_append (s : Int) (a b : List Int) : absorb s (a ++ b) = absorb (absorb s a) b := List.foldl_append
theorem absorb_snoc (s : Int) (a : List Int) (x : Int) : absorb s (a ++ [x]) = mixI (absorb s a) x := by rw [absorb_append]; rfl
theorem absorb_inj {ws : List Int} : ∀ {s s' : Int}, U64 s → U64 s' → absorb s ws = absorb s' ws → s = s' := by
  induction ws with
  | nil => intro s s' _ _ h; exact h
  | cons w ws ih => intro s s' hs hs' h; exact mixI_left hs hs' (ih (mixI_u64 s w) (mixI_u64 s' w) h)

/-! ### little-endian words -/
def leI (l : List Int) : Int := l.foldr (fun b acc => b + 256 * acc) 0
def Bytes (l : List Int) : Prop := ∀ x ∈ l, 0 ≤ x ∧ x ≤ 255
def wordsI (l : List Int) : List Int := (List.range ((l.length + 7) / 8)).map fun i => leI ((l.drop (8 * i)).take 8)
theorem leI_bd {l : List Int} (h : Bytes l) : 0 ≤ leI l ∧ leI l < 256 ^ l.length := by
  induction l with
  | nil => simp [leI]
  | cons b l ih =>
    have h1 := ih (fun x hx => h x (List.mem_cons_of_mem _ hx))
    have h2 := h b (List.mem_cons_self ..)
    simp only [leI, List.foldr_cons, List.length_cons] at h1 ⊢
    rw [Int.pow_succ]
    omega
theorem leI_u64 {l : List Int} (h : Bytes l) (hl : l.length ≤ 8) : U64 (leI l) := by
  have h1 := leI_bd h
  have h2 : 256 ^ l.length ≤ 18446744073709551616 := Nat.pow_le_pow_right (n := 256) (by omega) hl
  have h3 : ((256 ^ l.length : Nat) : Int) = 256 ^ l.length := Int.natCast_pow 256 l.length
  unfold U64
  omega
theorem leI_snoc (l : List Int) (b : Int) : leI (l ++ [b]) = leI l + b * 256 ^ l.length := by
  induction l with
  | nil =>
    show b + 256 * 0 = 0 + b * 1
    omega
  | cons c l ih =>
    have e1 : leI (c :: l ++ [b]) = c + 256 * leI (l ++ [b]) := rfl
    have e2 : leI (c :: l) = c + 256 * leI l := rfl
    rw [e1, e2, ih, List.length_cons, Int.pow_succ, Int.mul_add, ← Int.add_assoc, Int.mul_left_comm, Int.mul_comm 256 ((256 : Int) ^ l.length)]
theorem leI_inj {a b : List Int} (ha : Bytes a) (hb : Bytes b) (hl : a.length = b.length) (h : leI a = leI b) : a = b := by
  induction a generalizing b with
  | nil => exact (List.eq_nil_of_length_eq_zero (by simpa using hl.symm)).symm
  | cons x a ih =>
    cases b with
    | nil => simp at hl
    | cons y b =>
      have hx := ha x (List.mem_cons_self ..)
      have hy := hb y (List.mem_cons_self ..)
      simp only [leI, List.foldr_cons] at h
      have h1 : leI a = leI b := by unfold leI; omega
      have h2 : x = y := by omega
      rw [h2, ih (fun z hz => ha z (List.mem_cons_of_mem _ hz)) (fun z hz => hb z (List.mem_cons_of_mem _ hz)) (by simpa using hl) h1]

theorem wordsI_length (l : List Int) : (wordsI l).length = (l.length + 7) / 8 := by simp [wordsI]
theorem wordsI_take_succ (l : List Int) {i : Nat} (h : 8 * i < l.length) : (wordsI l).take (i + 1) = (wordsI l).take i ++ [leI ((l.drop (8 * i)).take 8)] := by
  have hi : i < (wordsI l).length := by rw [wordsI_length]; omega
  rw [List.take_succ_eq_append_getElem hi]
  simp [wordsI]
theorem wordsI_take_all (l : List Int) {i : Nat} (h : l.length ≤ 8 * i) : (wordsI l).take i = wordsI l := List.take_of_length_le (by rw [wordsI_length]; omega)
theorem Bytes.take {l : List Int} (h : Bytes l) (k : Nat) : Bytes (l.take k) := fun x hx => h x (List.mem_of_mem_take hx)
theorem Bytes.drop {l : List Int} (h : Bytes l) (k : Nat) : Bytes (l.drop k) := fun x hx => h x (List.mem_of_mem_drop hx)
theorem wordsI_u64 {l : List Int} (h : Bytes l) : ∀ x ∈ wordsI l, U64 x := by
  intro x hx
  simp only [wordsI, List.mem_map] at hx
  obtain ⟨i, _, rfl⟩ := hx
  exact leI_u64 ((h.drop _).take _) (by rw [List.length_take]; omega)
/-- the bytes of a text -/
def txt (s : ByteArray) : List Int := s.data.toList.map fun c => (c.toNat : Int)
theorem txt_length (s : ByteArray) : (txt s).length = s.size := by simp [txt]
theorem txt_bytes (s : ByteArray) : Bytes (txt s) := by
  intro x hx
  simp only [txt, List.mem_map] at hx
  obtain ⟨c, _, rfl⟩ := hx
  have := c.toNat_lt
  omega
theorem txt_get (s : ByteArray) {k : Nat} (h : k < s.size) : (txt s)[k]'(by rw [txt_length]; exact h) = ((s[k]).toNat : Int) := by
  simp [txt]
  rfl
theorem take_drop_succ (l : List Int) {f k : Nat} (h : f + k < l.length) : (l.drop f).take (k + 1) = (l.drop f).take k ++ [l[f + k]] := by
  have hk : k < (l.drop f).length := by rw [List.length_drop]; omega
  rw [List.take_succ_eq_append_getElem hk]
  simp
/-- one byte more -/
theorem le_step {acc b : Int} {k : Nat} (hacc : 0 ≤ acc ∧ acc < 256 ^ k) (hb : 0 ≤ b ∧ b ≤ 255) (hk : k < 8) (sh : Int) (hsh : sh = b * 256 ^ k) : bits .or .u64 acc sh = acc + b * 256 ^ k := by
  subst hsh
  obtain ⟨A, rfl⟩ := Int.eq_ofNat_of_zero_le hacc.1
  obtain ⟨B, rfl⟩ := Int.eq_ofNat_of_zero_le hb.1
  have hA : A < 2 ^ (8 * k) := by
    have h1 : ((A : Nat) : Int) < ((256 ^ k : Nat) : Int) := by rw [Int.natCast_pow]; exact hacc.2
    have h2 : A < 256 ^ k := Int.ofNat_lt.1 h1
    rw [Nat.pow_mul]
    exact h2
  have hP : 256 ^ k = 2 ^ (8 * k) := by rw [Nat.pow_mul]
  have hPI : (256 : Int) ^ k = ((2 ^ (8 * k) : Nat) : Int) := by rw [← hP, Int.natCast_pow]; rfl
  have hle : 2 ^ (8 * k) * 256 ≤ 18446744073709551616 := by
    have := Nat.pow_le_pow_right (n := 2) (by omega) (show 8 * k + 8 ≤ 64 by omega)
    rw [Nat.pow_add] at this
    exact this
  have hsum : 2 ^ (8 * k) * B + A = 2 ^ (8 * k) * B ||| A := Nat.two_pow_add_eq_or_of_lt hA B
  have hB : B ≤ 255 := by omega
  have hbd : 2 ^ (8 * k) * B + A < 18446744073709551616 := by
    have : 2 ^ (8 * k) * B ≤ 2 ^ (8 * k) * 255 := Nat.mul_le_mul_left _ hB
    omega
  rw [hPI, show ((B : Nat) : Int) * ((2 ^ (8 * k) : Nat) : Int) = ((2 ^ (8 * k) * B : Nat) : Int) from by rw [Int.natCast_mul, Int.mul_comm]]
  generalize 2 ^ (8 * k) * B = C at *
  have h : bits .or .u64 (A : Int) (C : Int) = IntKind.u64.wrap ((BitVec.ofInt 64 (A : Int) ||| BitVec.ofInt 64 (C : Int)).toNat : Int) := rfl
  rw [h, BitVec.ofInt_natCast, BitVec.ofInt_natCast, BitVec.toNat_or, BitVec.toNat_ofNat, BitVec.toNat_ofNat, Nat.mod_eq_of_lt (by omega), Nat.mod_eq_of_lt (by omega), Nat.or_comm, ← hsum, IntKind.wrap_u64]
  omega
theorem sh_eq {b : Int} {k : Nat} (hb : 0 ≤ b ∧ b ≤ 255) (hk : k < 8) : IntKind.u64.wrap (b * 2 ^ (8 * k)) = b * 256 ^ k := by
  have h : k = 0 ∨ k = 1 ∨ k = 2 ∨ k = 3 ∨ k = 4 ∨ k = 5 ∨ k = 6 ∨ k = 7 := by omega
  rw [IntKind.wrap_u64]
  rcases h with rfl | rfl | rfl | rfl | rfl | rfl | rfl | rfl <;> simp only [Nat.reduceMul, Int.reducePow] <;> omega
/-- the word with one byte more, as the walk writes it -/
theorem word_step {l : List Int} (hl : Bytes l) {f m : Nat} (hm : m < 8) (hin : f + m < l.length) {b : Int} (hb : b = l[f + m]) :
    bits .or .u64 (leI ((l.drop f).take m)) (IntKind.u64.wrap (b * 2 ^ (8 * m))) = leI ((l.drop f).take (m + 1)) := by
  have h1 := hl _ (List.getElem_mem hin)
  have h2 := leI_bd ((hl.drop f).take m)
  have h3 : ((l.drop f).take m).length = m := by simp; omega
  rw [h3] at h2
  subst hb
  rw [le_step h2 h1 hm _ (sh_eq h1 hm), take_drop_succ l hin, leI_snoc, h3]
theorem drop_take_pred (L : List Int) {p e : Nat} (h1 : 0 < p) (h2 : p ≤ e) (h3 : e ≤ L.length) : (L.drop (p - 1)).take (e - (p - 1)) = L[p - 1]'(by omega) :: (L.drop p).take (e - p) := by
  have h4 : p - 1 < L.length := by omega
  rw [List.drop_eq_getElem_cons h4, show e - (p - 1) = (e - p) + 1 from by omega, List.take_succ_cons, show p - 1 + 1 = p from by omega]
theorem leI_cons (b : Int) (l : List Int) : leI (b :: l) = 256 * leI l + b := by
  show b + 256 * leI l = 256 * leI l + b
  omega
theorem leI_small {l : List Int} (h : Bytes l) (hl : l.length ≤ 7) : 0 ≤ leI l ∧ leI l ≤ 72057594037927935 := by
  have h1 := leI_bd h
  have h2 : 256 ^ l.length ≤ 72057594037927936 := Nat.pow_le_pow_right (n := 256) (by omega) hl
  have h3 : ((256 ^ l.length : Nat) : Int) = 256 ^ l.length := Int.natCast_pow 256 l.length
  omega
end Go.Proofs.Ytgelhcgaacnjcaa
