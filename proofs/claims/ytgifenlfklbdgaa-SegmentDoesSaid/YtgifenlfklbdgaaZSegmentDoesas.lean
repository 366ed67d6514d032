/- A part of the proof of the law SegmentDoes: the words, contracts and plain facts that it needs, no more. Each says its own condition. -/
import Derived.Test.YtgifenlfklbdgaaZSegmentDoesy
import Derived.Test.YtgifenlfklbdgaaZSegmentDoesg
import Derived.Test.YtgifenlfklbdgaaZSegmentDoesp
import Derived.Test.YtgifenlfklbdgaaZSegmentDoesr
import Derived.Test.YtgifenlfklbdgaaZSegmentDoesu
import Derived.Test.YtgifenlfklbdgaaZSegmentDoesj
import Derived.Test.YtgifenlfklbdgaaZSegmentDoesl
namespace Go.Proofs.Ytgifenlfklbdgaa.P
open Go.RowKit Go.Proofs.YtgifenlfklbdgaaW.PrintWords Go.Proofs.YtgifenlfklbdgaaW.PrintLast Go.Proofs.YtgifenlfklbdgaaW.PrintMore
set_option linter.unusedSimpArgs false
set_option linter.unusedVariables false
theorem same_self8 (l : List S42) (h : l.length ≤ 140000) (k : Nat) (hk : l.length < k) : vinculumref08_Same.f k l l = some true := by
  unfold vinculumref08_Same.f
  rw [if_pos rfl]
  have hs : ∀ (d : Nat), ∀ k i, l.length - i = d → i ≤ l.length → d < k → vinculumref08_Same.l0 k l l (i : Int) = some true := by
    intro d
    induction d with
    | zero =>
      intro k i hd hi hk
      obtain ⟨k, rfl⟩ : ∃ n, k = n + 1 := ⟨k - 1, by omega⟩
      simp only [vinculumref08_Same.l0]
      rw [if_neg (by omega)]
    | succ d ih =>
      intro k i hd hi hk
      obtain ⟨k, rfl⟩ : ∃ n, k = n + 1 := ⟨k - 1, by omega⟩
      have hw : wrap64 ((i : Int) + 1) = ((i + 1 : Nat) : Int) := by unfold wrap64; omega
      have := ih k (i + 1) (by omega) (by omega) (by omega)
      simp only [vinculumref08_Same.l0]
      rw [if_pos (by omega), if_pos (by omega), if_pos (by omega), hw, if_neg (by simp)]
      exact this
  exact hs l.length k 0 (by omega) (by omega) hk
end Go.Proofs.Ytgifenlfklbdgaa.P
