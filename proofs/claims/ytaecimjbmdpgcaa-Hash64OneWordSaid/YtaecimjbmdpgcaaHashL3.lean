/-
  WHAT IS PROVED HERE: the walk of the law Hash64OneWord: it returns true at every input and leaves old memory as it was.
-/
import Derived.Test.YtaecimjbmdpgcaaHashQ
namespace Go.Proofs.Ytaecimjbmdpgcaa
set_option linter.unusedVariables false
open Go.ChangeShapes Go.WideShapes Go.ChangeAt Go.RowKit

set_option maxHeartbeats 8000000 in
theorem hword_walk (s : ByteArray) (hs : s.size ≤ maxLen) (A : Option Addr) (n c : Nat) (l : List Int) (hl : ∀ x ∈ l, I64 x) (p v : Int) (hp : -9223372036854775808 ≤ p ∧ p ≤ 9223372036854775807) (hv : I64 v) (w : World) (rd : Rd w w.heap.size 1 A n (l.map (Value.int .i64))) (hn : n ≤ c) (hc : c ≤ maxLen) :
    Calls Try.prog 5 #[.string s, .slice A n c, .int .i64 p, .int .i64 v] w fun e w' => e = .returned (.bool true) ∧ Below w.heap.size w w' := by
  have HC := Lib.hid hc
  have HS := Lib.hid hs
  have RD := Lib.hid rd
  have hLL : l.length = n := by have := rd.1; simpa using this
  have HN1 := Lib.hid (show (l.take 9).length = min n 9 from by rw [List.length_take, hLL, Nat.min_comm])
  clear hc hs rd hLL
  go_enter Try.func5, Try.ntmps5
  go_wp2_with fail
  refine (short_any s 20 20 rfl (by have := HS.out; unfold maxLen at this; omega) (by omega) _).mono ?_
  rintro e w_ ⟨s', rfl, ht, hsz, rfl⟩
  clear ht
  go_wp2_with fail
  refine (ints_any A n c l 9 9 _ rfl RD.out hn HC.out (by omega)).mono ?_
  rintro e w1 ⟨A1, c1, rfl, g1, g2, g3, hb1⟩
  have hN : min n 9 ≤ 9 := Nat.min_le_right _ _
  generalize min n 9 = N at *
  have hl1 : ∀ x ∈ l.take 9, I64 x := fun x hx => hl x (List.mem_of_mem_take hx)
  generalize l.take 9 = l1 at *
  have O1 := Lib.hid g3
  clear g3 g2 g1
  have hz1 := hb1.size
  go_wp2_with (at_builtin; refine wpList_app _ rfl (.tmp 16) (.tmp 17) slInts rfl rfl (O1.out.alloc _) rfl (rd_lit w1 _ _ rfl rfl) (by intro u hu; simp at hu; subst hu; rfl) (N + 1) rfl (by unfold maxLen; omega) (by omega) (by simp; omega) ?_; intro A2 c2 w2 g1 g2 g3 g4 g5; clear g5)
  have O2 := Lib.hid (show w2.ownsRow w.heap.size 3 1 (.slice A2 (N + 1) c2) (N + 1) ((l1 ++ [7]).map (Value.int .i64)) from by rw [List.map_append]; exact g3)
  have hB2 : Below w.heap.size w w2 := below_app (b_alloc hb1 _) (O1.out.alloc _) g4 (Nat.le_refl _) (by simp; omega)
  have G1 := Lib.hid g1
  have G2 := Lib.hid g2
  have hlen : (l1 ++ [7]).length = N + 1 := by rw [List.length_append, HN1.out]; rfl
  have hl2 : ∀ x ∈ l1 ++ [7], I64 x := fun x hx => by
    rcases List.mem_append.1 hx with h | h
    · exact hl1 x h
    · have : x = 7 := by simpa using h
      subst this
      exact ⟨by omega, by omega⟩
  generalize l1 ++ [7] = la at *
  have HLA := Lib.hid hlen
  clear g1 g2 g3 g4 hlen hl1
  refine (ints_any A2 (N + 1) c2 la 10 10 _ rfl (rd_own O2.out) G1.out G2.out (by omega)).mono ?_
  rintro e w3 ⟨A3, c3, rfl, g1, g2, g3, hb3⟩
  rw [Nat.min_eq_left (by omega : N + 1 ≤ 10)] at g1 g3 ⊢
  have e2 := Lib.hid (List.take_of_length_le (by rw [HLA.out]; omega) : la.take 10 = la)
  rw [e2.out] at g3
  obtain ⟨g, cur, rfl, hg, hV, hcur, hNc, hcs⟩ := own_open g3 (by omega)
  have O3 := Lib.hid g3
  have hz3 := hb3.size
  have ha := around_bd p (N + 1) (by omega)
  obtain ⟨K, hK⟩ : ∃ K : Nat, around p (N + 1) = K := ⟨(around p (N + 1)).toNat, by omega⟩
  rw [hK] at ha
  go_wp2_with fail
  refine (around_any p _ _ hp.1 hp.2 (by omega) (by omega)).mono ?_
  rintro e w_ ⟨rfl, rfl⟩
  rw [hK]
  have HK := Lib.hid hK
  clear hK
  have hKs : K < cur.size := by rw [hcs]; omega
  have hcK : w3.cell? ⟨g, K, none⟩ = some cur[K] := by rw [hV.cell, Array.getElem?_eq_getElem hKs]
  have hfK := hV.frozen K
  go_wp2_with fail
  refine name_world ?_
  intro X hX
  have OX := Lib.hid (show X.ownsRow w2.heap.size 3 1 (.slice (some ⟨g, 0, none⟩) (N + 1) c3) (N + 1) ((la.set K v).map (Value.int .i64)) from by rw [hX, List.map_set]; exact own_set O3.out K _)
  have RX := Lib.hid (show Rd X X.heap.size 1 A2 (N + 1) (la.map (Value.int .i64)) from by
    rw [hX]
    exact (((rd_own O2.out).below hb3 (Nat.le_refl _)).setCell (p := ⟨g, K, none⟩) hg _).more (by simpa [World.setCell] using hz3))
  have hBX : Below w.heap.size w X := by rw [hX]; exact (b_call hB2 hb3).setCell (p := ⟨g, K, none⟩) (Nat.le_trans hB2.size hg) _
  obtain ⟨b, o, hKl, rfl, hb, hcell⟩ := RX.out.openMap (k := K) (by omega)
  have q := sum_set (lab := txt s') hKl (hl2 _ (List.getElem_mem hKl)) hv
  obtain ⟨y, hy⟩ : ∃ y, la[K] = y := ⟨_, rfl⟩
  rw [hy] at hcell q
  have HY := Lib.hid hy
  clear hy hX hcK hfK hV hKs hcur hcs hNc hl2 hb1 hb3 hB2
  go_region_held3 (fun w' => (∀ b o, b < X.heap.size → w'.cell? ⟨b, o, none⟩ = X.cell? ⟨b, o, none⟩) ∧ Below X.heap.size X w') (first | exact still_call (by assumption) (by assumption) | exact still_drew0 _ | exact still_drew (by assumption) | exact still_alloc (by assumption) _) (first
    | (go_at_call 13; (with_reducible refine (sum_any s' ?_ (some ⟨b, o, none⟩) (N + 1) c2 la _ ?_ ?_).mono ?_); (· omega); (· exact rd_step RX.out (by (repeat (first | (with_reducible exact Below.refl _ _) | (with_reducible assumption) | (with_reducible refine b_drew ?_) | (with_reducible refine b_drewN ?_ _) | (with_reducible refine b_alloc ?_ _) | ((with_reducible refine b_set ?_ ?_ _); rotate_left; (focus (first | omega | (simp; done) | (simp; omega) | (simp at *; omega)))) | (with_reducible refine b_call ?_ (by with_reducible assumption)))))); (· omega); rintro e w4 ⟨rfl, hb4⟩)
    | (go_at_call 13; (with_reducible refine (sum_any s' ?_ (some ⟨g, 0, none⟩) (N + 1) c3 (la.set K v) _ ?_ ?_).mono ?_); (· omega); (· exact rd_step (rd_own OX.out) (by (repeat (first | (with_reducible exact Below.refl _ _) | (with_reducible assumption) | (with_reducible refine b_drew ?_) | (with_reducible refine b_drewN ?_ _) | (with_reducible refine b_alloc ?_ _) | ((with_reducible refine b_set ?_ ?_ _); rotate_left; (focus (first | omega | (simp; done) | (simp; omega) | (simp at *; omega)))) | (with_reducible refine b_call ?_ (by with_reducible assumption)))))); (· omega); rintro e w5 ⟨rfl, hb5⟩)
    | (go_at_call 15; refine (hlives_any _).mono ?_; rintro e w6 ⟨rfl, hb6⟩))
  go_wp2
  go_ret
  exact ⟨rfl, by (repeat (first | (with_reducible exact Below.refl _ _) | (with_reducible assumption) | (with_reducible refine b_drew ?_) | (with_reducible refine b_drewN ?_ _) | (with_reducible refine b_alloc ?_ _) | ((with_reducible refine b_set ?_ ?_ _); rotate_left; (focus (first | omega | (simp; done) | (simp; omega) | (simp at *; omega)))) | (with_reducible refine b_call ?_ (by with_reducible assumption))))⟩
end Go.Proofs.Ytaecimjbmdpgcaa
