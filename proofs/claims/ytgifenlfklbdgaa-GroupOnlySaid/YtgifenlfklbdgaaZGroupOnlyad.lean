/- A part of the proof of the law GroupOnly: the words, contracts and plain facts that it needs, no more. Each says its own condition. -/
import Derived.Test.YtgifenlfklbdgaaZGroupOnlyaa
namespace Go.Proofs.Ytgifenlfklbdgaa.P
open Go.RowKit Go.Proofs.YtgifenlfklbdgaaW.PrintWords Go.Proofs.YtgifenlfklbdgaaW.PrintLast Go.Proofs.YtgifenlfklbdgaaW.PrintMore
set_option linter.unusedSimpArgs false
set_option linter.unusedVariables false
theorem ord_mk {x : S42} {l : List S42} (h : ∀ y ∈ l, x.f1 < y.f0) (ho : ordN l = true) : ordN (x :: l) = true := by
  cases l with
  | nil => rfl
  | cons y r => rw [ord_step, decide_eq_true (h y List.mem_cons_self), Bool.true_and]; exact ho
theorem w2_at (pre : List UInt8) (v : Int) (r : List UInt8) (h0 : 0 ≤ v) (h1 : v ≤ 65535) (p : Nat) (hp : pre.length = p) : w2 ⟨(pre ++ (bytesN v 2 ++ r)).toArray⟩ p = v := by
  unfold w2
  rw [← hp, ba_drop]
  exact take_bytes (s := 2) (by decide) (fits2 h0 h1) r
end Go.Proofs.Ytgifenlfklbdgaa.P
