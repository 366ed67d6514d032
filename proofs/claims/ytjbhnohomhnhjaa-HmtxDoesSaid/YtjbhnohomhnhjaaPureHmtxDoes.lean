/- The plain law of HmtxDoes: Get, Put and Width tell what the references tell. -/
import Derived.Test.YtjbhnohomhnhjaaPFVinculumlaw06HmtxDoes
import Derived.Test.YtjbhnohomhnhjaaMHmtxRef
import Derived.Test.YtjbhnohomhnhjaaMHmtxW
namespace Go.Proofs.Ytjbhnohomhnhjaa.Pure
open Go.RowKit Go.Proofs.Ytjbhnohomhnhjaa.P Go.Proofs.YtjbhnohomhnhjaaW.PrintWords Go.Proofs.YtjbhnohomhnhjaaW.PrintLast
set_option linter.unusedSimpArgs false
set_option linter.unusedVariables false
theorem get_some (s : ByteArray) (g m : Int) : ∃ r c, hmtx_Get.f s g m = some (r, c) ∧ r.length ≤ 131072 := by
  by_cases hb : g < 1 ∨ 65535 < g ∨ m < 1 ∨ g < m
  · exact ⟨[], 1, by unfold hmtx_Get.f; rw [if_pos hb], by simp⟩
  · by_cases hs : (s.size : Int) < 4 * m + 2 * (g - m)
    · exact ⟨[], 4, by unfold hmtx_Get.f; rw [if_neg hb, if_pos hs], by simp⟩
    · obtain ⟨g, rfl⟩ := Int.eq_ofNat_of_zero_le (show 0 ≤ g by omega)
      obtain ⟨m, rfl⟩ := Int.eq_ofNat_of_zero_le (show 0 ≤ m by omega)
      exact ⟨_, _, get_told s g m (by omega) (by omega) (by omega) (by omega), by simp; omega⟩
theorem width_some (l : List S34) (i : Int) : ∃ a b, hmtx_Width.f l i = some (a, b) := by
  unfold hmtx_Width.f
  by_cases h1 : i < 0
  · exact ⟨_, _, by rw [if_pos h1]⟩
  · by_cases h2 : i ≥ (l.length : Int)
    · exact ⟨_, _, by rw [if_neg h1, if_pos h2]⟩
    · exact ⟨_, _, by rw [if_neg h1, if_neg h2, if_pos (by omega), if_pos (by omega)]⟩
theorem does_told (s : ByteArray) (g m : Int) (l : List S34) (i : Int) (K : Nat) (hK : 131400 ≤ K) : vinculumlaw06_HmtxDoes.f (K + 1) s g m l i = some true := by
  have hj : ∀ b, (b = false → ¬ (l.length : Int) > 700) → vinculumlaw06_HmtxDoes.j0 (K + 1) s g m l i b = some true := fun b hb => by
    simp only [vinculumlaw06_HmtxDoes.j0]
    cases b with
    | true => rw [if_pos rfl]
    | false =>
      have hl := hb rfl
      obtain ⟨r, c, hg, hr⟩ := get_some s g m
      obtain ⟨p, hp⟩ : ∃ p, hmtx_Put.f l = some p := ⟨_, put_told l⟩
      obtain ⟨a, b, hw⟩ := width_some l i
      have hw2 : vinculumref06_Width.f l i = some (a, b) := hw
      rw [if_neg (by decide), if_pos (by simp; omega)]
      simp only [Option.bind_some, List.nil_append]
      rw [hg]
      simp only [Option.bind_some]
      rw [refget_told s g m K (by omega), hg]
      simp only [Option.bind_some]
      rw [hp]
      simp only [Option.bind_some]
      rw [refput_told l K (by omega), hp]
      simp only [Option.bind_some]
      rw [hw]
      simp only [Option.bind_some]
      rw [hw2]
      simp only [Option.bind_some]
      rw [wide_told K (by omega)]
      simp only [Option.bind_some]
      rw [if_pos trivial, same_told r (by omega) K (by omega)]
      simp only [Option.bind_some]
      rw [if_pos trivial, if_pos trivial, if_pos trivial, if_pos trivial, if_pos trivial, if_pos trivial, if_pos trivial, same_told l (by omega) K (by omega)]
      rfl
  unfold vinculumlaw06_HmtxDoes.f
  by_cases h1 : (s.size : Int) > 3000
  · rw [if_pos h1]
    exact hj true (fun h => absurd h (by decide))
  · rw [if_neg h1]
    exact hj _ (fun h => of_decide_eq_false h)
end Go.Proofs.Ytjbhnohomhnhjaa.Pure
