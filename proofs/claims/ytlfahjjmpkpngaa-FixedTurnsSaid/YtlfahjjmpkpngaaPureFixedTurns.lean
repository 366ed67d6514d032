/- FixedTurns' pure statement: MulDiv's sides and two signs may be changed, one sign turned turns the answer, and by c of c it is as it was. No condition. -/
import Derived.Test.YtlfahjjmpkpngaaPFVinculumlaw01FixedTurns
import Derived.Test.YtlfahjjmpkpngaaMFixed
namespace Go.Proofs.Ytlfahjjmpkpngaa.Pure
open Go.RowKit Go.Proofs.Ytlfahjjmpkpngaa.P Go.Proofs.YtlfahjjmpkpngaaW.PrintWords Go.Proofs.YtlfahjjmpkpngaaW.PrintLast

theorem FixedTurns : vinculumlaw01_FixedTurns.Pure := by
  intro a b c _ _ _
  refine ⟨20, ?_⟩
  have hck := checked_true
  unfold vinculumlaw01_FixedTurns.f fixed_MulDiv.f
  rw [fixed_Is.f_at _ (by simp) _ (by simp)]
  simp only [Option.bind_some]
  by_cases hl : areLen [a, b, c] = true
  · rw [if_pos hl]
    have hh := areLen3.1 hl
    have ba := len_bd hh.1
    have bc := len_bd hh.2.2
    have w1 : wrap64 (-a) = -a := wrap_id (by omega) (by omega)
    have w2 : wrap64 (-c) = -c := wrap_id (by omega) (by omega)
    have bq := len_bd (mulDivN_bd a b c)
    have w3 : wrap64 (-(mulDivN a b c).1) = -(mulDivN a b c).1 := wrap_id (by omega) (by omega)
    rw [w1, w2, w3, mulDivN_comm a b c, mulDivN_turn, mulDivN_neg]
    simp only [if_true, bne_self_eq_false]
    simp only [vinculumlaw01_FixedTurns.j0, Bool.false_eq_true, if_false]
    by_cases hc : c = 0
    · rw [if_pos hc, hck _ (by omega)]
      simp only [Option.bind_some, if_true]
      have : mulDivN a b c = (0, 1) := by unfold mulDivN; rw [if_neg (fun h => h.2 hc)]
      rw [this]; rfl
    · rw [if_neg hc]
      unfold fixed_MulDiv.f
      rw [mulDivN_self a c hh.1 hh.2.2 hc, hck _ (by omega)]
      simp
  · rw [if_neg hl, hck _ (by omega)]
    have : mulDivN a b c = (0, 1) := by unfold mulDivN; rw [if_neg (fun h => hl h.1)]
    rw [this]; rfl

end Go.Proofs.Ytlfahjjmpkpngaa.Pure
