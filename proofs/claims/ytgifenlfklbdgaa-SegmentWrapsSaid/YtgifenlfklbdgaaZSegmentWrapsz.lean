/- A part of the proof of the law SegmentWraps: the words, contracts and plain facts that it needs, no more. Each says its own condition. -/
import Derived.Test.YtgifenlfklbdgaaZSegmentWrapsu
import Derived.Test.YtgifenlfklbdgaaZSegmentWrapsx
import Derived.Test.YtgifenlfklbdgaaZSegmentWrapsy
import Derived.Test.YtgifenlfklbdgaaZSegmentWrapsq
import Derived.Test.YtgifenlfklbdgaaZSegmentWrapsp
import Derived.Test.YtgifenlfklbdgaaZSegmentWrapsg
import Derived.Test.YtgifenlfklbdgaaZSegmentWrapsj
import Derived.Test.YtgifenlfklbdgaaZSegmentWrapsl
section
namespace Go.Proofs.Ytgifenlfklbdgaa.P
open Go.RowKit Go.Proofs.YtgifenlfklbdgaaW.PrintWords Go.Proofs.YtgifenlfklbdgaaW.PrintLast Go.Proofs.YtgifenlfklbdgaaW.PrintMore
set_option linter.unusedSimpArgs false
set_option linter.unusedVariables false
def glyphOf (l : List S42) (c : Int) : Int := if isL l = true then lookN l c else 0
theorem look_told (l : List S42) (c : Int) : chart_Look.f l c = some (glyphOf l c) := by
  unfold chart_Look.f chart_Is.f glyphOf
  rw [Option.bind_some]
  cases h : isL l with
  | false => rw [if_neg Bool.false_ne_true, if_neg Bool.false_ne_true]
  | true =>
    rw [if_pos rfl, if_pos rfl]
    unfold chart_look.f
    rw [if_pos (isL_all h).1]
    rfl
end Go.Proofs.Ytgifenlfklbdgaa.P
end
section
namespace Go.Proofs.Ytgifenlfklbdgaa.P
open Go.RowKit Go.Proofs.YtgifenlfklbdgaaW.PrintWords Go.Proofs.YtgifenlfklbdgaaW.PrintLast Go.Proofs.YtgifenlfklbdgaaW.PrintMore
set_option linter.unusedSimpArgs false
set_option linter.unusedVariables false
def w2 (s : ByteArray) (p : Nat) : Int := takeN (s.extract p s.size) 2
def w1 (s : ByteArray) (p : Nat) : Int := takeN (s.extract p s.size) 1
theorem w2_bd (s : ByteArray) (p : Nat) : 0 ≤ w2 s p ∧ w2 s p ≤ 65535 := by
  unfold w2 takeN
  rw [if_neg (by rintro ⟨h, _⟩; exact absurd h (by decide))]
  have := numAt_bd (s.extract p s.size) 2
  have e4 : (256 : Int) ^ 2 = 65536 := by decide
  rw [e4] at this
  have e : (2 : Int).natAbs = 2 := rfl
  rw [e]; omega
def spansN (a : Int) : List Int → List S42
  | [] => []
  | g :: r => if g = 0 then spansN (a + 1) r else ⟨a, a, g, 1⟩ :: spansN (a + 1) r
theorem spans_len (a : Int) : ∀ (L : List Int), ∀ b, (spansN b L).length ≤ L.length
  | [], b => Nat.le_refl _
  | g :: r, b => by
    unfold spansN
    have := spans_len a r (b + 1)
    by_cases h : g = 0
    · rw [if_pos h, List.length_cons]; omega
    · rw [if_neg h, List.length_cons, List.length_cons]; omega
theorem spans_snoc (g : Int) : ∀ (L : List Int) (a : Int), spansN a (L ++ [g]) = spansN a L ++ (if g = 0 then [] else [⟨a + L.length, a + L.length, g, 1⟩])
  | [], a => by
    unfold spansN
    simp [spansN]
  | x :: r, a => by
    rw [List.cons_append]
    unfold spansN
    rw [spans_snoc g r (a + 1)]
    have e : a + 1 + (r.length : Int) = a + ((x :: r).length : Int) := by rw [List.length_cons]; omega
    rw [e]
    by_cases h : x = 0
    · rw [if_pos h, if_pos h]
    · rw [if_neg h, if_neg h, List.cons_append]
theorem rep_told {z : Int} (n : Nat) (h : n ≤ 131072) : slices_Repeat_int_int.f [z] (n : Int) = some (repN [z] n) := by
  unfold slices_Repeat_int_int.f slices_Repeat.f
  rw [if_pos (by refine ⟨by omega, by omega, Nat.lt_of_lt_of_le (by decide : (1 : Nat) < 2) (by decide), ?_⟩; show 1 * ((n : Int)).toNat ≤ _; omega)]
  rfl
theorem rep_one (z : Int) (k : Nat) : (repN [z] k).length = k := by rw [repN_length]; exact Nat.one_mul _
end Go.Proofs.Ytgifenlfklbdgaa.P
end
