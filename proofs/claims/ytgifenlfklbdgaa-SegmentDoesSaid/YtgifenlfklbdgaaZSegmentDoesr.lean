/- A part of the proof of the law SegmentDoes: the words, contracts and plain facts that it needs, no more. Each says its own condition. -/
import Derived.Test.YtgifenlfklbdgaaZSegmentDoesp
import Derived.Test.YtgifenlfklbdgaaZSegmentDoesq
namespace Go.Proofs.Ytgifenlfklbdgaa.P
open Go.RowKit Go.Proofs.YtgifenlfklbdgaaW.PrintWords Go.Proofs.YtgifenlfklbdgaaW.PrintLast Go.Proofs.YtgifenlfklbdgaaW.PrintMore
set_option linter.unusedSimpArgs false
set_option linter.unusedVariables false
structure ArrW (w : World) (B : Nat) (W : World) (bs : List UInt8) : Prop where
  n : bs.length ≤ 256
  c : ∀ j (h : j < bs.length), W.cell? ⟨B, j, none⟩ = some (.int .u8 (bs[j].toNat : Int))
  z : ∀ j, bs.length ≤ j → j < 256 → W.cell? ⟨B, j, none⟩ = some (.int .u8 0)
  f : ∀ j, W.frozen? ⟨B, j, none⟩ = false
  g : w.heap.size ≤ B
  s : B < W.heap.size
  b : Below w.heap.size w W
theorem ArrW.below {w W W' : World} {B : Nat} {bs : List UInt8} (h : ArrW w B W bs) (hb : Below W.heap.size W W') : ArrW w B W' bs :=
  ⟨h.n, fun j hj => (hb.cell (p := ⟨B, j, none⟩) h.s).trans (h.c j hj), fun j h1 h2 => (hb.cell (p := ⟨B, j, none⟩) h.s).trans (h.z j h1 h2), fun j => (hb.frozen (p := ⟨B, j, none⟩) h.s).trans (h.f j), h.g, Nat.lt_of_lt_of_le h.s hb.size, below_then h.b h.b.size hb⟩
theorem ArrW.put {w W : World} {B : Nat} {bs : List UInt8} (h : ArrW w B W bs) (x : UInt8) (hn : bs.length < 256) : ArrW w B (W.setCell ⟨B, bs.length, none⟩ (.int .u8 (x.toNat : Int))) (bs ++ [x]) := by
  have hz := h.z bs.length (Nat.le_refl _) hn
  have hother : ∀ j, j ≠ bs.length → (W.setCell ⟨B, bs.length, none⟩ (.int .u8 (x.toNat : Int))).cell? ⟨B, j, none⟩ = W.cell? ⟨B, j, none⟩ := fun j hj => World.cell?_setCell_other W _ _ _ (by intro e; injection e with _ e2 _; exact hj e2.symm)
  refine ⟨by simp; omega, fun j hj => ?_, fun j h1 h2 => ?_, fun j => by rw [World.frozen?_setCell]; exact h.f j, h.g, by rw [World.size_setCell]; exact h.s, h.b.setCell (p := ⟨B, bs.length, none⟩) h.g _⟩
  · by_cases he : j = bs.length
    · subst he
      rw [World.cell?_setCell_same' W _ _ (by rw [hz]; rfl)]
      simp
    · have hj' : j < bs.length := by simp at hj; omega
      rw [hother j he, h.c j hj', List.getElem_append_left hj']
  · simp at h1
    rw [hother j (by omega)]
    exact h.z j (by omega) h2
end Go.Proofs.Ytgifenlfklbdgaa.P
