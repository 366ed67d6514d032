/- A part of the proof of the law GroupOnly: the words, contracts and plain facts that it needs, no more. Each says its own condition. -/
import Derived.Test.YtgifenlfklbdgaaZGroupOnlyv
import Derived.Test.YtgifenlfklbdgaaZGroupOnlyy
import Derived.Test.YtgifenlfklbdgaaZGroupOnlyz
import Derived.Test.YtgifenlfklbdgaaZGroupOnlyg
import Derived.Test.YtgifenlfklbdgaaZGroupOnlyp
import Derived.Test.YtgifenlfklbdgaaZGroupOnlyj
import Derived.Test.YtgifenlfklbdgaaZGroupOnlyl
section
namespace Go.Proofs.Ytgifenlfklbdgaa.P
open Go.RowKit Go.Proofs.YtgifenlfklbdgaaW.PrintWords Go.Proofs.YtgifenlfklbdgaaW.PrintLast Go.Proofs.YtgifenlfklbdgaaW.PrintMore
set_option linter.unusedSimpArgs false
set_option linter.unusedVariables false
theorem rd_get (l : List S42) (i : Nat) (h : i < l.length) : rd_T42 l (i : Int) = l[i] := by
  rw [rd_atS, atS_get l i h]
def glyphOf (l : List S42) (c : Int) : Int := if isL l = true then lookN l c else 0
theorem look_told (l : List S42) (c : Int) : chart_Look.f l c = some (glyphOf l c) := by
  unfold chart_Look.f chart_Is.f glyphOf
  rw [Option.bind_some]
  cases h : isL l with
  | false => rw [if_neg Bool.false_ne_true, if_neg Bool.false_ne_true]
  | true =>
    rw [if_pos rfl, if_pos rfl]
    unfold chart_look.f
    rw [if_pos (isL_all h).1]
    rfl
end Go.Proofs.Ytgifenlfklbdgaa.P
end
section
namespace Go.Proofs.Ytgifenlfklbdgaa.P
open Go.RowKit Go.Proofs.YtgifenlfklbdgaaW.PrintWords Go.Proofs.YtgifenlfklbdgaaW.PrintLast Go.Proofs.YtgifenlfklbdgaaW.PrintMore
set_option linter.unusedSimpArgs false
set_option linter.unusedVariables false
def w2 (s : ByteArray) (p : Nat) : Int := takeN (s.extract p s.size) 2
def w1 (s : ByteArray) (p : Nat) : Int := takeN (s.extract p s.size) 1
theorem w2_bd (s : ByteArray) (p : Nat) : 0 ≤ w2 s p ∧ w2 s p ≤ 65535 := by
  unfold w2 takeN
  rw [if_neg (by rintro ⟨h, _⟩; exact absurd h (by decide))]
  have := numAt_bd (s.extract p s.size) 2
  have e4 : (256 : Int) ^ 2 = 65536 := by decide
  rw [e4] at this
  have e : (2 : Int).natAbs = 2 := rfl
  rw [e]; omega
theorem one_w2 (s : ByteArray) (p : Nat) (h : p + 2 ≤ s.size) (k : Nat) (hk : 16 ≤ k) : vinculumref03_One.f k (s.extract p (p + 2)) 2 = some (w2 s p) := one_at s p (s := 2) (by decide) 2 rfl h k hk
end Go.Proofs.Ytgifenlfklbdgaa.P
end
