/- The plain law of HmtxBack: what is put is got. -/
import Derived.Test.YtjbhnohomhnhjaaPFVinculumlaw06HmtxBack
import Derived.Test.YtjbhnohomhnhjaaMHmtxPut
import Derived.Test.YtjbhnohomhnhjaaMHmtxW
namespace Go.Proofs.Ytjbhnohomhnhjaa.Pure
open Go.RowKit Go.Proofs.Ytjbhnohomhnhjaa.P Go.Proofs.YtjbhnohomhnhjaaW.PrintWords Go.Proofs.YtjbhnohomhnhjaaW.PrintLast
set_option linter.unusedSimpArgs false
set_option linter.unusedVariables false
/-- What is put is got: at so many rounds. -/
theorem back_told (l : List S34) (more : ByteArray) (k : Nat) (hk : 800 ≤ k) : vinculumlaw06_HmtxBack.f k l more = some true := by
  obtain ⟨k, rfl⟩ : ∃ n, k = n + 1 := ⟨k - 1, by omega⟩
  have hj : ∀ b, ((l.length : Int) > 700 ∨ (more.size : Int) > 1000 → b = true) → (b = false → ¬ (l.length : Int) > 700 ∧ ¬ (more.size : Int) > 1000) → vinculumlaw06_HmtxBack.j0 (k + 1) l more b = some true := fun b h1 h2 => by
    simp only [vinculumlaw06_HmtxBack.j0]
    cases b with
    | true => rw [if_pos rfl]
    | false =>
      obtain ⟨hl, hm⟩ := h2 rfl
      rw [if_neg (by decide), put_told]
      simp only [Option.bind_some]
      have hw := wide_told k (by omega)
      by_cases hb : l.length = 0 ∨ 65535 < l.length
      · rw [if_pos hb]
        simp only
        rw [if_neg (by decide), hw]
        simp only [Option.bind_some]
        rw [if_pos trivial, if_pos (by decide +kernel)]
        rfl
      · rw [if_neg hb]
        cases ho : ok1 l with
        | false =>
          rw [if_neg Bool.false_ne_true]
          simp only
          rw [if_neg (by decide), hw]
          simp only [Option.bind_some]
          rw [if_pos trivial, if_pos (by decide +kernel)]
          rfl
        | true =>
          have h0 : 0 < l.length := by omega
          have hn := leastN_le l h0
          have hsp := leastN_spec l h0
          rw [if_pos rfl]
          simp only
          rw [if_pos trivial, if_pos (by rw [ba_size, bytesM_length l h0]; omega), get_back l more ho h0 (by omega)]
          simp only [Option.bind_some]
          rw [if_pos trivial, same_told l (by omega) k (by omega)]
          simp only [Option.bind_some]
          rw [if_pos trivial, if_neg (by omega), if_neg (by omega), if_pos (by rw [ba_size, bytesM_length l h0]; unfold wrap64; omega), hw]
          simp only [Option.bind_some]
          rw [if_pos trivial]
          by_cases h2 : leastN l < 2
          · rw [if_pos (by omega)]
          · have w1 : wrap64 ((leastN l : Int) - 2) = ((leastN l - 2 : Nat) : Int) := by unfold wrap64; omega
            have w2 : wrap64 ((leastN l : Int) - 1) = ((leastN l - 1 : Nat) : Int) := by unfold wrap64; omega
            rw [if_neg (by omega), w1, w2, if_pos (by omega), if_pos (by omega), if_pos (by omega), if_pos (by omega)]
            have h3 := hsp.2 (by omega)
            have h4 := hsp.1 (leastN l - 1) (Nat.le_refl _) (by omega)
            unfold adv at h3 h4
            rw [← h4] at h3
            simpa using h3
  unfold vinculumlaw06_HmtxBack.f
  by_cases h1 : (l.length : Int) > 700
  · rw [if_pos h1]
    exact hj true (fun _ => rfl) (fun h => absurd h (by decide))
  · rw [if_neg h1]
    exact hj _ (fun h => decide_eq_true (h.resolve_left h1)) (fun h => ⟨h1, of_decide_eq_false h⟩)
end Go.Proofs.Ytjbhnohomhnhjaa.Pure
