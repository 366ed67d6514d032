/- FixedGrows' pure statement: what MulDiv tells grows with a, where b is 0 or more and c above 0. No condition. -/
import Derived.Test.YtlfahjjmpkpngaaPFVinculumlaw01FixedGrows
import Derived.Test.YtlfahjjmpkpngaaMFixed
namespace Go.Proofs.Ytlfahjjmpkpngaa.Pure
open Go.RowKit Go.Proofs.Ytlfahjjmpkpngaa.P Go.Proofs.YtlfahjjmpkpngaaW.PrintWords Go.Proofs.YtlfahjjmpkpngaaW.PrintLast

theorem grows_out (x0 x1 x2 x3 : Int) : vinculumlaw01_FixedGrows.j0 20 x0 x1 x2 x3 true = some true := by
  simp only [vinculumlaw01_FixedGrows.j0, if_true]
  rw [checked_true _ (by omega)]; rfl
theorem grows_out1 (x y : Int) : vinculumlaw01_FixedGrows.j1 19 x y true = some true := by
  simp only [vinculumlaw01_FixedGrows.j1, if_true]
  rw [checked_true _ (by omega)]; rfl
theorem FixedGrows : vinculumlaw01_FixedGrows.Pure := by
  intro a m b c _ _ _ _
  refine ⟨20, ?_⟩
  unfold vinculumlaw01_FixedGrows.f
  rw [fixed_Is.f_at _ (by simp) _ (by simp)]
  simp only [Option.bind_some]
  by_cases hl : areLen [a, m, b, c] = true
  case neg => rw [if_neg hl]; exact grows_out _ _ _ _
  rw [if_pos hl]
  obtain ⟨ha, hm, hb, hc⟩ := areLen4.1 hl
  by_cases b0 : b < 0
  · rw [if_pos b0]; exact grows_out _ _ _ _
  rw [if_neg b0]
  by_cases c0 : c ≤ 0
  · rw [if_pos c0]; exact grows_out _ _ _ _
  rw [if_neg c0]
  by_cases m0 : m < 0
  · rw [decide_eq_true m0]; exact grows_out _ _ _ _
  rw [decide_eq_false m0]
  simp only [vinculumlaw01_FixedGrows.j0, Bool.false_eq_true, if_false]
  unfold fixed_Add.f fixed_MulDiv.f
  simp only [Option.bind_some]
  by_cases e1 : (addN a m).2 = 0
  case neg => rw [if_neg e1]; exact grows_out1 _ _
  rw [if_pos e1]
  by_cases e2 : (mulDivN a b c).2 = 0
  case neg => rw [if_neg e2]; exact grows_out1 _ _
  rw [if_pos e2]
  by_cases e3 : (mulDivN (addN a m).1 b c).2 = 0
  case neg => rw [show ((mulDivN (addN a m).1 b c).2 != 0) = true by simpa using e3]; exact grows_out1 _ _
  rw [show ((mulDivN (addN a m).1 b c).2 != 0) = false by simpa using e3]
  simp only [vinculumlaw01_FixedGrows.j1, Bool.false_eq_true, if_false]
  rw [checked_true _ (by omega)]
  simp only [Option.bind_some, if_true, ge_iff_le, Option.some.injEq, decide_eq_true_eq]
  have hd : (addN a m).1 = a + m := by
    rw [addN_eq, if_pos ⟨ha, hm⟩] at e1 ⊢
    split at e1
    · rename_i h; rw [if_pos h]
    · exact absurd e1 (by decide)
  rw [hd] at e3 ⊢
  obtain ⟨_, _, _, hc1, hq1, _⟩ := mulDiv_ok2 e2
  obtain ⟨_, _, _, _, hq2, _⟩ := mulDiv_ok2 e3
  rw [hq1, hq2]
  obtain ⟨D, hD⟩ := mdQ_near a b c hc1
  obtain ⟨D', hD'⟩ := mdQ_near (a + m) b c hc1
  exact near_mono (by omega) hD hD' (Int.mul_le_mul_of_nonneg_right (by omega) (by omega))

end Go.Proofs.Ytlfahjjmpkpngaa.Pure
