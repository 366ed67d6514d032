/- A part of the proof of the law SegmentDoes: the words, contracts and plain facts that it needs, no more. Each says its own condition. -/
import Derived.Shelf.Abstract
import Derived.Shelf.RegionOpen
import Derived.OwnWalkIn
import Derived.TacticsInMore
import Derived.LoopNIn
import Derived.LoopIn
import Derived.Lib.Hide
import Derived.Deep.RegionHeld3
import Derived.Test.YtgifenlfklbdgaaZSegmentDoesm
import Derived.RangeFuncNested
import Derived.RangeFuncBound
import Derived.RangeFuncCalls
import Derived.RangeFuncLeaves
import Derived.OrdersIn
import Derived.Test.YtgifenlfklbdgaaZSegmentDoesg
namespace Go.Proofs.Ytgifenlfklbdgaa.P
open Go.RowKit Go.Shelf Go.Proofs.YtgifenlfklbdgaaW.PrintWords Go.Proofs.YtgifenlfklbdgaaW.PrintLast Go.Proofs.YtgifenlfklbdgaaW.PrintMore
set_option linter.unusedSimpArgs false
set_option linter.unusedVariables false
attribute [local go_sem] Oper.semAt_some
def KeepsB (ks : List Nat) (W W' : World) : Prop := ∀ k ∈ ks, W'.heap[k]? = W.heap[k]?
theorem KeepsB.refl (ks : List Nat) (W : World) : KeepsB ks W W := fun _ _ => rfl
theorem KeepsB.trans {ks : List Nat} {A B C : World} (h : KeepsB ks A B) (k : KeepsB ks B C) : KeepsB ks A C := fun i hi => (k i hi).trans (h i hi)
theorem KeepsB.cell {ks : List Nat} {W W' : World} (h : KeepsB ks W W') {p : Addr} (hp : p.block ∈ ks) : W'.cell? p = W.cell? p := by unfold World.cell?; rw [h _ hp]
end Go.Proofs.Ytgifenlfklbdgaa.P
