/- A part of the proof of the law SegmentDoes: the words, contracts and plain facts that it needs, no more. Each says its own condition. -/
import Derived.Test.YtgifenlfklbdgaaZSegmentDoesp
import Derived.Test.YtgifenlfklbdgaaZSegmentDoesq
import Derived.Test.YtgifenlfklbdgaaZSegmentDoest
import Derived.Lib.AppendStr
namespace Go.Proofs.Ytgifenlfklbdgaa.P
open Go.RowKit Go.Proofs.YtgifenlfklbdgaaW.PrintWords Go.Proofs.YtgifenlfklbdgaaW.PrintLast Go.Proofs.YtgifenlfklbdgaaW.PrintMore
set_option linter.unusedSimpArgs false
set_option linter.unusedVariables false
theorem fits2 {v : Int} (h0 : 0 ≤ v) (h1 : v ≤ 65535) : fitsN v 2 = true := by
  unfold fitsN
  have e : (256 : Int) ^ (2 : Int).natAbs = 65536 := by decide
  rw [if_neg (by decide), e]
  exact decide_eq_true (by omega)
end Go.Proofs.Ytgifenlfklbdgaa.P
