/- A part of the proof of the law GlyfDeep: the words, contracts and plain facts that it needs, no more. Each says its own condition. -/
import Derived.Test.YtjmliafplgjkhaaZGlyfDeepa
namespace Go.Proofs.YtjmliafplgjkhaaW.PrintWords
open Go.RowKit
section
variable {P : Program} {ops : Array Oper} {rest : List Oper} {o : Oper} {a : Act} {Q : Exit → Act → World → Prop} {W : World}
theorem gate_guard (hw : Region.wanted o (yielded ops a.tmps) = true) (h : wpList P ops Q ({ o with guard := none } :: rest) a W) : wpList P ops Q (o :: rest) a W := by
  have h1 : Region.wanted { o with guard := none } (yielded ops a.tmps) = true := rfl
  unfold wpList at h ⊢
  rw [if_pos h1] at h
  rw [if_pos hw]
  exact h
end
end Go.Proofs.YtjmliafplgjkhaaW.PrintWords
