/- A part of the proof of the law SegmentDoes: the words, contracts and plain facts that it needs, no more. Each says its own condition. -/
import Derived.Test.YtgifenlfklbdgaaZSegmentDoesr
import Derived.Test.YtgifenlfklbdgaaZSegmentDoesu
import Derived.Test.YtgifenlfklbdgaaZSegmentDoesv
import Derived.Test.YtgifenlfklbdgaaZSegmentDoesg
import Derived.Test.YtgifenlfklbdgaaZSegmentDoesp
import Derived.Test.YtgifenlfklbdgaaZSegmentDoesj
import Derived.Test.YtgifenlfklbdgaaZSegmentDoesl
section
namespace Go.Proofs.Ytgifenlfklbdgaa.P
open Go.RowKit Go.Proofs.YtgifenlfklbdgaaW.PrintWords Go.Proofs.YtgifenlfklbdgaaW.PrintLast Go.Proofs.YtgifenlfklbdgaaW.PrintMore
set_option linter.unusedSimpArgs false
set_option linter.unusedVariables false
theorem rd_get (l : List S42) (i : Nat) (h : i < l.length) : rd_T42 l (i : Int) = l[i] := by
  rw [rd_atS, atS_get l i h]
theorem one_ref (x : S42) : vinculumref08_one.f x.f0 x.f1 x.f2 x.f3 = some (rightN x) := by
  obtain ⟨a, b, c, s⟩ := x
  unfold vinculumref08_one.f rightN
  simp only
  by_cases h1 : a < 0
  · rw [if_pos h1, decide_eq_false (show ¬ 0 ≤ a by omega), Bool.false_and]
  rw [if_neg h1, decide_eq_true (show 0 ≤ a by omega), Bool.true_and]
  by_cases h2 : b < a
  · rw [if_pos h2, decide_eq_false (show ¬ a ≤ b by omega), Bool.false_and]
  rw [if_neg h2, decide_eq_true (show a ≤ b by omega), Bool.true_and]
  by_cases h3 : b > 1114111
  · rw [if_pos h3, decide_eq_false (show ¬ b ≤ 1114111 by omega), Bool.false_and]
  rw [if_neg h3, decide_eq_true (show b ≤ 1114111 by omega), Bool.true_and]
  have hs : (s == 0 || s == 1) = (decide (0 ≤ s) && decide (s ≤ 1)) := by
    rw [Bool.eq_iff_iff]
    simp only [Bool.or_eq_true, Bool.and_eq_true, beq_iff_eq, decide_eq_true_eq]
    omega
  rw [hs]
  by_cases h4 : s < 0
  · rw [if_pos h4, decide_eq_false (show ¬ 0 ≤ s by omega), Bool.false_and, Bool.false_and]
  rw [if_neg h4, decide_eq_true (show 0 ≤ s by omega), Bool.true_and]
  by_cases h5 : s > 1
  · rw [if_pos h5, decide_eq_false (show ¬ s ≤ 1 by omega), Bool.false_and]
  rw [if_neg h5, decide_eq_true (show s ≤ 1 by omega), Bool.true_and]
  by_cases h6 : c < 0
  · rw [if_pos h6, decide_eq_false (show ¬ 0 ≤ c by omega), Bool.false_and]
  rw [if_neg h6, decide_eq_true (show 0 ≤ c by omega), Bool.true_and]
  by_cases h7 : c > 65535
  · rw [if_pos h7, decide_eq_false (show ¬ c ≤ 65535 by omega), Bool.false_and]
  rw [if_neg h7, decide_eq_true (show c ≤ 65535 by omega), Bool.true_and, glyph_bound (by omega) (by omega) (by omega) (by omega) (by omega) s (by omega)]
def isFrom (l : List S42) (i : Nat) : Bool := (l.drop i).all rightN && ordN (l.drop (i - 1))
theorem is_loop (l : List S42) (hl : l.length ≤ 65536) (d : Nat) : ∀ k i, l.length - i = d → i ≤ l.length → 2 * d + 3 ≤ k → vinculumref08_Is.l0 k l (i : Int) = some (isFrom l i) := by
  induction d with
  | zero =>
    intro k i hd hi hk
    obtain ⟨k, rfl⟩ : ∃ n, k = n + 2 := ⟨k - 2, by omega⟩
    have : i = l.length := by omega
    subst this
    simp only [vinculumref08_Is.l0]
    rw [if_neg (by omega)]
    simp only [vinculumref08_Is.j1]
    rw [if_neg Bool.false_ne_true, decide_eq_true (show (l.length : Int) ≤ 65536 by omega)]
    unfold isFrom
    rw [List.drop_length, List.all_nil, Bool.true_and]
    by_cases h0 : l.length = 0
    · rw [List.length_eq_zero_iff.1 h0]; rfl
    · rw [ord_last l (l.length - 1) (by omega)]
  | succ d ih =>
    intro k i hd hi hk
    obtain ⟨k, rfl⟩ : ∃ n, k = n + 2 := ⟨k - 2, by omega⟩
    have hlt : i < l.length := by omega
    have hw : wrap64 ((i : Int) + 1) = ((i + 1 : Nat) : Int) := by unfold wrap64; omega
    have hw1 : wrap64 ((i : Int) - 1) = (i : Int) - 1 := by unfold wrap64; omega
    have ih' := ih k (i + 1) (by omega) (by omega) (by omega)
    simp only [vinculumref08_Is.l0]
    rw [if_pos (by omega), decide_eq_true (show (l.length : Int) ≤ 65536 by omega)]
    simp only [vinculumref08_Is.j1]
    rw [if_pos trivial, if_pos (by omega), if_pos (by omega), one_ref]
    simp only [Option.bind_some]
    rw [rd_get l i hlt, hw, hw1, ih']
    have e1 : (l.drop i).all rightN = (rightN l[i] && (l.drop (i + 1)).all rightN) := by rw [List.drop_eq_getElem_cons hlt, List.all_cons]
    cases hx : rightN l[i] with
    | false =>
      rw [if_neg Bool.false_ne_true]
      unfold isFrom
      rw [e1, hx, Bool.false_and, Bool.false_and]
    | true =>
      rw [if_pos rfl]
      unfold isFrom
      rw [e1, hx, Bool.true_and, Nat.add_sub_cancel]
      by_cases h0 : (i : Int) > 0
      · obtain ⟨j, rfl⟩ : ∃ j, i = j + 1 := ⟨i - 1, by omega⟩
        have hj : ((j + 1 : Nat) : Int) - 1 = (j : Int) := by omega
        rw [if_pos h0, hj, if_pos (by omega), if_pos (by omega), rd_get l j (by omega), Nat.add_sub_cancel, ord_at l j hlt]
        by_cases hle : l[j + 1].f0 ≤ l[j].f1
        · rw [if_pos hle, decide_eq_false (show ¬ l[j].f1 < l[j + 1].f0 by omega), Bool.false_and, Bool.and_false]
        · rw [if_neg hle, decide_eq_true (show l[j].f1 < l[j + 1].f0 by omega), Bool.true_and]
      · have : i = 0 := by omega
        subst this
        rw [if_neg h0]
theorem is_ref8 (l : List S42) (k : Nat) (hk : 131100 ≤ k ∨ l.length ≤ 300 ∧ 700 ≤ k) : vinculumref08_Is.f k l = some (isL l) := by
  unfold vinculumref08_Is.f
  by_cases hl : l.length ≤ 65536
  · have := is_loop l hl l.length k 0 rfl (by omega) (by omega)
    refine Eq.trans this ?_
    unfold isFrom isL
    rw [List.drop_zero, decide_eq_true hl, Bool.true_and]
  · obtain ⟨k, rfl⟩ : ∃ n, k = n + 2 := ⟨k - 2, by omega⟩
    simp only [vinculumref08_Is.l0]
    rw [if_pos (by omega), decide_eq_false (show ¬ (l.length : Int) ≤ 65536 by omega)]
    simp only [vinculumref08_Is.j1]
    rw [if_neg Bool.false_ne_true, decide_eq_false (show ¬ (l.length : Int) ≤ 65536 by omega)]
    unfold isL
    rw [decide_eq_false hl, Bool.false_and]
end Go.Proofs.Ytgifenlfklbdgaa.P
end
section
namespace Go.Proofs.Ytgifenlfklbdgaa.P
open Go.RowKit Go.Proofs.YtgifenlfklbdgaaW.PrintWords Go.Proofs.YtgifenlfklbdgaaW.PrintLast Go.Proofs.YtgifenlfklbdgaaW.PrintMore
set_option linter.unusedSimpArgs false
set_option linter.unusedVariables false
theorem bytes_two {v : Int} (h0 : 0 ≤ v) (h1 : v ≤ 65535) (k : Nat) (hk : 16 ≤ k) : vinculumref03_Bytes.f k v 2 = some ⟨(bytesN v 2).toArray⟩ := by
  have e : (256 : Int) ^ 2 = 65536 := by decide
  exact bytesN_told v 2 (by simp) (by rw [e]; omega) (by rw [e]; omega) k hk
end Go.Proofs.Ytgifenlfklbdgaa.P
end
section
namespace Go.Proofs.Ytgifenlfklbdgaa.P
open Go.RowKit Go.Proofs.YtgifenlfklbdgaaW.PrintWords Go.Proofs.YtgifenlfklbdgaaW.PrintLast Go.Proofs.YtgifenlfklbdgaaW.PrintMore
set_option linter.unusedSimpArgs false
set_option linter.unusedVariables false
def w2 (s : ByteArray) (p : Nat) : Int := takeN (s.extract p s.size) 2
def w1 (s : ByteArray) (p : Nat) : Int := takeN (s.extract p s.size) 1
theorem w2_bd (s : ByteArray) (p : Nat) : 0 ≤ w2 s p ∧ w2 s p ≤ 65535 := by
  unfold w2 takeN
  rw [if_neg (by rintro ⟨h, _⟩; exact absurd h (by decide))]
  have := numAt_bd (s.extract p s.size) 2
  have e4 : (256 : Int) ^ 2 = 65536 := by decide
  rw [e4] at this
  have e : (2 : Int).natAbs = 2 := rfl
  rw [e]; omega
theorem one_w2 (s : ByteArray) (p : Nat) (h : p + 2 ≤ s.size) (k : Nat) (hk : 16 ≤ k) : vinculumref03_One.f k (s.extract p (p + 2)) 2 = some (w2 s p) := one_at s p (s := 2) (by decide) 2 rfl h k hk
def spansN (a : Int) : List Int → List S42
  | [] => []
  | g :: r => if g = 0 then spansN (a + 1) r else ⟨a, a, g, 1⟩ :: spansN (a + 1) r
theorem spans_len (a : Int) : ∀ (L : List Int), ∀ b, (spansN b L).length ≤ L.length
  | [], b => Nat.le_refl _
  | g :: r, b => by
    unfold spansN
    have := spans_len a r (b + 1)
    by_cases h : g = 0
    · rw [if_pos h, List.length_cons]; omega
    · rw [if_neg h, List.length_cons, List.length_cons]; omega
theorem spans_snoc (g : Int) : ∀ (L : List Int) (a : Int), spansN a (L ++ [g]) = spansN a L ++ (if g = 0 then [] else [⟨a + L.length, a + L.length, g, 1⟩])
  | [], a => by
    unfold spansN
    simp [spansN]
  | x :: r, a => by
    rw [List.cons_append]
    unfold spansN
    rw [spans_snoc g r (a + 1)]
    have e : a + 1 + (r.length : Int) = a + ((x :: r).length : Int) := by rw [List.length_cons]; omega
    rw [e]
    by_cases h : x = 0
    · rw [if_pos h, if_pos h]
    · rw [if_neg h, if_neg h, List.cons_append]
theorem rep_told {z : Int} (n : Nat) (h : n ≤ 131072) : slices_Repeat_int_int.f [z] (n : Int) = some (repN [z] n) := by
  unfold slices_Repeat_int_int.f slices_Repeat.f
  rw [if_pos (by refine ⟨by omega, by omega, Nat.lt_of_lt_of_le (by decide : (1 : Nat) < 2) (by decide), ?_⟩; show 1 * ((n : Int)).toNat ≤ _; omega)]
  rfl
theorem rep_one (z : Int) (k : Nat) : (repN [z] k).length = k := by rw [repN_length]; exact Nat.one_mul _
end Go.Proofs.Ytgifenlfklbdgaa.P
end
