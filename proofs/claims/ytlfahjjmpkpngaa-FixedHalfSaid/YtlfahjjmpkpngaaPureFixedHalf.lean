/- FixedHalf's pure statement: two halves are a length or one less than it, and a half of what is twice as much is it. No condition. -/
import Derived.Test.YtlfahjjmpkpngaaPFVinculumlaw01FixedHalf
import Derived.Test.YtlfahjjmpkpngaaMFixed
namespace Go.Proofs.Ytlfahjjmpkpngaa.Pure
open Go.RowKit Go.Proofs.Ytlfahjjmpkpngaa.P Go.Proofs.YtlfahjjmpkpngaaW.PrintWords Go.Proofs.YtlfahjjmpkpngaaW.PrintLast

theorem FixedHalf : vinculumlaw01_FixedHalf.Pure := by
  intro a _
  refine ⟨20, ?_⟩
  unfold vinculumlaw01_FixedHalf.f fixed_Half.f fixed_Add.f
  rw [fixed_Is.f_at _ (by simp) _ (by simp), areLen1, checked_true _ (by omega)]
  simp only [Option.bind_some, if_true]
  by_cases hl : isLen a = true
  · rw [if_pos hl]
    have ba := len_bd hl
    have e : halfN a = (a / 2, 0) := by unfold halfN; rw [if_pos hl]
    rw [e]
    simp only [if_true]
    have w1 : wrap64 (2 * (a / 2)) = 2 * (a / 2) := wrap_id (by omega) (by omega)
    have w2 : wrap64 (2 * (a / 2) + 1) = 2 * (a / 2) + 1 := wrap_id (by omega) (by omega)
    rw [w1, w2]
    have tail : (if (addN a a).2 = 0 then (if (halfN (addN a a).1).2 = 0 then (some ((halfN (addN a a).1).1 == a)) else (some false)) else (some true)) = some true := by
      have e3 : addN a a = if isLen (a + a) = true then (a + a, 0) else (0, 2) := by rw [addN_eq, if_pos ⟨hl, hl⟩]
      rw [e3]
      by_cases h2 : isLen (a + a) = true
      · rw [if_pos h2]
        simp only [if_true]
        have e2 : halfN (a + a) = ((a + a) / 2, 0) := by unfold halfN; rw [if_pos h2]
        rw [e2]
        simp only [if_true, Option.some.injEq, beq_iff_eq]
        omega
      · rw [if_neg h2]; rfl
    by_cases h0 : 2 * (a / 2) = a
    · rw [if_pos h0]; exact tail
    · rw [if_neg h0, if_pos (by omega)]; exact tail
  · rw [if_neg hl]
    have e : halfN a = (0, 1) := by unfold halfN; rw [if_neg hl]
    rw [e]; rfl

end Go.Proofs.Ytlfahjjmpkpngaa.Pure
