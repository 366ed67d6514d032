/- FixedNear's pure statement: what MulDiv tells, times c, is the nearest to the product, and of two as near the one away from 0. No condition. -/
import Derived.Test.YtlfahjjmpkpngaaPFVinculumlaw01FixedNear
import Derived.Test.YtlfahjjmpkpngaaMFixed
namespace Go.Proofs.Ytlfahjjmpkpngaa.Pure
open Go.RowKit Go.Proofs.Ytlfahjjmpkpngaa.P Go.Proofs.YtlfahjjmpkpngaaW.PrintWords Go.Proofs.YtlfahjjmpkpngaaW.PrintLast

theorem FixedNear : vinculumlaw01_FixedNear.Pure := by
  intro a b c _ _ _
  refine ⟨20, ?_⟩
  have hck := checked_true
  unfold vinculumlaw01_FixedNear.f fixed_MulDiv.f
  simp only [Option.bind_some]
  by_cases h : areLen [a, b, c] = true ∧ c ≠ 0
  · have hh := areLen3.1 h.1
    by_cases hq : isLen (mdQ a b c) = true
    · have e : mulDivN a b c = (mdQ a b c, 0) := by unfold mulDivN; rw [if_pos h, if_pos hq]
      rw [e]
      simp only [if_true]
      rw [fixed_Is.f_at _ (by simp) _ (by simp), areLen4.2 ⟨hh.1, hh.2.1, hh.2.2, hq⟩]
      simp only [Option.bind_some, if_true]
      rw [show (c == 0) = false from beq_eq_false_iff_ne.2 h.2]
      simp only [vinculumlaw01_FixedNear.j0, Bool.false_eq_true, if_false]
      obtain ⟨D, hD⟩ := mdQ_near a b c h.2
      have bp := mul_bd (len_bd hh.1) (len_bd hh.2.1)
      have bc := len_bd hh.2.2
      obtain ⟨eqn, lo, hi, tie⟩ := hD
      have w1 : wrap64 (a * b) = a * b := wrap_id (by omega) (by omega)
      have w2 : wrap64 (mdQ a b c * c) = mdQ a b c * c := wrap_id (by rw [eqn]; split at lo <;> split at hi <;> omega) (by rw [eqn]; split at lo <;> split at hi <;> omega)
      rw [w1, w2, eqn]
      have w3 : wrap64 (a * b + D - a * b) = D := by rw [wrap_id] <;> (split at lo <;> split at hi <;> omega)
      rw [w3]
      have w4 : wrap64 (2 * D) = 2 * D := by rw [wrap_id] <;> (split at lo <;> split at hi <;> omega)
      have w5 : wrap64 (-c) = -c := by rw [wrap_id] <;> omega
      rw [w4, w5]
      have key : ∀ wd, wd = (if c < 0 then -c else c) → vinculumlaw01_FixedNear.j1 19 c (mdQ a b c) (a * b) (2 * D) wd = some true := by
        intro wd hwd
        have hw6 : wrap64 (-wd) = -wd := by rw [wrap_id] <;> (split at hwd <;> omega)
        rw [← hwd] at lo hi tie
        simp only [vinculumlaw01_FixedNear.j1]
        rw [if_neg (by omega), hw6, show decide (2 * D < -wd) = false from decide_eq_false (by omega)]
        simp only [vinculumlaw01_FixedNear.j2, Bool.false_eq_true, if_false]
        by_cases t1 : 2 * D = wd
        · rw [if_pos t1]
          simp only [vinculumlaw01_FixedNear.j3, Bool.false_eq_true, if_false]
          rw [hck _ (by omega)]
          simp only [Option.bind_some, if_true]
          rw [w2, eqn]
          have := tie (.inl t1)
          simp only [ge_iff_le, Option.some.injEq, beq_iff_eq, decide_eq_decide]
          omega
        · rw [if_neg t1, hw6]
          by_cases t2 : 2 * D = -wd
          · rw [show (2 * D != -wd) = false from by simpa using t2]
            simp only [vinculumlaw01_FixedNear.j3, Bool.false_eq_true, if_false]
            rw [hck _ (by omega)]
            simp only [Option.bind_some, if_true]
            rw [w2, eqn]
            have := tie (.inr t2)
            simp only [ge_iff_le, Option.some.injEq, beq_iff_eq, decide_eq_decide]
            omega
          · rw [show (2 * D != -wd) = true from by simpa using t2]
            simp only [vinculumlaw01_FixedNear.j3, if_true]
            rw [hck _ (by omega)]
            rfl
      split
      · rename_i hneg; exact key _ (by rw [if_pos hneg])
      · rename_i hneg; exact key _ (by rw [if_neg hneg])
    · have e : mulDivN a b c = (0, 2) := by unfold mulDivN; rw [if_pos h, if_neg hq]
      rw [e]
      simp only [show ¬ ((2 : Int) = 0) by decide, if_false]
      rw [hck _ (by omega)]
      rfl
  · have e : mulDivN a b c = (0, 1) := by unfold mulDivN; rw [if_neg h]
    rw [e]
    simp only [show ¬ ((1 : Int) = 0) by decide, if_false]
    rw [hck _ (by omega)]
    simp only [Option.bind_some, if_true]
    rw [if_neg (by decide), fixed_Is.f_at _ (by simp) _ (by simp)]
    simp only [Option.bind_some]
    by_cases hl : areLen [a, b, c] = true
    · rw [if_pos hl]
      have : c = 0 := by
        by_cases hc : c = 0
        · exact hc
        · exact absurd ⟨hl, hc⟩ h
      rw [this]; rfl
    · rw [if_neg hl]

end Go.Proofs.Ytlfahjjmpkpngaa.Pure
