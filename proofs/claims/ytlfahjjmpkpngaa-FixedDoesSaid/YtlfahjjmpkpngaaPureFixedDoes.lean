/- FixedDoes' pure statement: package fixed answers as the reference does, for every row of at most 300 numbers and every three numbers. No condition. -/
import Derived.Test.YtlfahjjmpkpngaaPFVinculumlaw01FixedDoes
import Derived.Test.YtlfahjjmpkpngaaMRef01
namespace Go.Proofs.Ytlfahjjmpkpngaa.Pure
open Go.RowKit Go.Proofs.Ytlfahjjmpkpngaa.P Go.Proofs.YtlfahjjmpkpngaaW.PrintWords Go.Proofs.YtlfahjjmpkpngaaW.PrintLast

theorem does_loop (l : List Int) (a b c s e u g w i : Int) (hl : l.length ≤ 300) (d : Nat) : ∀ (k n : Nat), l.length - n = d → n ≤ l.length → d + 400 ≤ k →
    vinculumlaw01_FixedDoes.l0 k l a b c l s e s e u g u g w i w i (n : Int) = some true := by
  induction d with
  | zero =>
    intro k n hd hn hk
    obtain ⟨k, rfl⟩ : ∃ m, k = m + 1 := ⟨k - 1, by omega⟩
    simp only [vinculumlaw01_FixedDoes.l0]
    rw [if_neg (by omega)]
    unfold fixed_MulDiv.f fixed_Half.f
    rw [ref01_MulDiv _ _ _ _ (by omega), ref01_Half, checked_true _ (by omega), fixed_Is.f_at _ (by omega) _ (by omega), ref01_Is _ (by omega) _ (by omega)]
    simp
  | succ d ih =>
    intro k n hd hn hk
    obtain ⟨k, rfl⟩ : ∃ m, k = m + 1 := ⟨k - 1, by omega⟩
    have hlt : n < l.length := by omega
    simp only [vinculumlaw01_FixedDoes.l0]
    rw [if_pos (by omega), if_pos (by omega), if_pos (by omega), if_pos trivial, wrap_succ hlt (by omega)]
    exact ih k (n + 1) (by omega) (by omega) (by omega)

theorem FixedDoes : vinculumlaw01_FixedDoes.Pure := by
  intro l a b c _ _ _ _ _ _
  refine ⟨1000, ?_⟩
  unfold vinculumlaw01_FixedDoes.f vinculumref01_Few.f
  simp only [Option.bind_some]
  by_cases hl : (l.length : Int) ≤ 300
  case neg => rw [decide_eq_false hl]; rfl
  rw [decide_eq_true hl]
  simp only [if_true]
  rw [if_pos (by simp only [List.length_nil]; omega)]
  unfold fixed_Sum.f fixed_Add.f fixed_Times.f
  rw [if_pos (by omega), List.nil_append, ref01_Sum _ (by omega) _ (by omega), ref01_Add, ref01_Times]
  simp only [Option.bind_some]
  have := does_loop l a b c (sumN l).1 (sumN l).2 (addN a b).1 (addN a b).2 (timesN a b).1 (timesN a b).2 (by omega) l.length 1000 0 (by omega) (by omega) (by omega)
  simpa using this

end Go.Proofs.Ytlfahjjmpkpngaa.Pure
