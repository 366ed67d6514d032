/- The plain law of HmtxAgain: what is got, and put, is got as it was, in no more bytes. -/
import Derived.Test.YtjbhnohomhnhjaaPFVinculumlaw06HmtxAgain
import Derived.Test.YtjbhnohomhnhjaaMHmtxPut
import Derived.Test.YtjbhnohomhnhjaaMHmtxW
namespace Go.Proofs.Ytjbhnohomhnhjaa.Pure
open Go.RowKit Go.Proofs.Ytjbhnohomhnhjaa.P Go.Proofs.YtjbhnohomhnhjaaW.PrintWords Go.Proofs.YtjbhnohomhnhjaaW.PrintLast
set_option linter.unusedSimpArgs false
set_option linter.unusedVariables false
theorem width_told (l : List S34) (i : Nat) (h : i < l.length) : hmtx_Width.f l (i : Int) = some (adv l i, 0) := by
  unfold hmtx_Width.f
  rw [if_neg (by omega), if_neg (by omega), if_pos (by omega), if_pos (by omega)]
  rfl
theorem widths_told (l : List S34) (hl : l.length ≤ 65535) (a : Int) (d : Nat) : ∀ k i, l.length - i = d → i ≤ l.length → d + 8 < k → (∀ j, i ≤ j → j < l.length → adv l j = a) → vinculumlaw06_HmtxAgain.l0 k (l.length : Int) l a 0 (i : Int) = some true := by
  induction d with
  | zero =>
    intro k i hd hi hk _
    obtain ⟨k, rfl⟩ : ∃ m, k = m + 1 := ⟨k - 1, by omega⟩
    simp only [vinculumlaw06_HmtxAgain.l0]
    rw [if_neg (by omega), wide_told k (by omega)]
    rfl
  | succ d ih =>
    intro k i hd hi hk ha
    obtain ⟨k, rfl⟩ : ∃ m, k = m + 1 := ⟨k - 1, by omega⟩
    simp only [vinculumlaw06_HmtxAgain.l0]
    have hw : wrap64 ((i : Int) + 1) = ((i + 1 : Nat) : Int) := by unfold wrap64; omega
    rw [if_pos (by omega), width_told l i (by omega)]
    simp only [Option.bind_some]
    rw [if_pos trivial, if_pos (ha i (Nat.le_refl _) (by omega)).symm, hw]
    exact ih k (i + 1) (by omega) (by omega) (by omega) (fun j h1 h2 => ha j (by omega) h2)
theorem get_back0 (l : List S34) (hok : ok1 l = true) (h0 : 0 < l.length) (hl : l.length ≤ 65535) : hmtx_Get.f (⟨(bytesM l).toArray⟩ : ByteArray) (l.length : Int) (leastN l : Int) = some (l, 0) := by
  have := get_back l ByteArray.empty hok h0 hl
  rwa [ByteArray.append_empty] at this
theorem again_told (s : ByteArray) (g m : Int) (K : Nat) (hK : 65600 ≤ K) : vinculumlaw06_HmtxAgain.f (K + 1) s g m = some true := by
  unfold vinculumlaw06_HmtxAgain.f
  by_cases hs0 : (s.size : Int) > 3000
  · rw [if_pos hs0]
  rw [if_neg hs0]
  have hw := wide_told (K + 1) (by omega)
  by_cases hb : g < 1 ∨ 65535 < g ∨ m < 1 ∨ g < m
  · have hg : hmtx_Get.f s g m = some ([], 1) := by unfold hmtx_Get.f; rw [if_pos hb]
    rw [hg]
    simp only [Option.bind_some]
    rw [if_neg (by decide), hw]
    rfl
  · by_cases hs : (s.size : Int) < 4 * m + 2 * (g - m)
    · have hg : hmtx_Get.f s g m = some ([], 4) := by unfold hmtx_Get.f; rw [if_neg hb, if_pos hs]
      rw [hg]
      simp only [Option.bind_some]
      rw [if_neg (by decide), hw]
      rfl
    · obtain ⟨g, rfl⟩ := Int.eq_ofNat_of_zero_le (show 0 ≤ g by omega)
      obtain ⟨m, rfl⟩ := Int.eq_ofNat_of_zero_le (show 0 ≤ m by omega)
      rw [get_told s g m (by omega) (by omega) (by omega) (by omega)]
      obtain ⟨l, hl⟩ : ∃ l, l = (List.range g).map (metricAt s m) := ⟨_, rfl⟩
      rw [← hl]
      have hlen : l.length = g := by rw [hl]; simp
      have hat : ∀ i (hi : i < l.length), l[i] = metricAt s m i := fun i hi => by simp [hl]
      have hadv : ∀ i, i < l.length → adv l i = (metricAt s m i).f0 := fun i hi => by unfold adv; rw [rd_get l i hi, hat i hi]
      have hok : ok1 l = true := by
        unfold ok1
        rw [List.all_eq_true]
        intro x hx
        obtain ⟨i, hi, rfl⟩ := List.getElem_of_mem hx
        rw [hat i hi, Bool.and_eq_true]
        unfold metricAt
        split
        · exact ⟨u_fits (u16_range _ _), i_fits (i16_range _ _)⟩
        · exact ⟨u_fits (u16_range _ _), i_fits (i16_range _ _)⟩
      have h0 : 0 < l.length := by omega
      have hsame : ∀ i, m - 1 ≤ i → i < l.length → adv l i = u16 s (4 * (m - 1)) := fun i h1 h2 => by
        rw [hadv i h2]
        unfold metricAt
        by_cases him : i < m
        · rw [if_pos him]
          have : i = m - 1 := by omega
          rw [this]
        · rw [if_neg him]
      have hnm : leastN l ≤ m := leastN_least l h0 m (by omega) (fun i h1 h2 => by rw [hsame i h1 h2, hsame (l.length - 1) (by omega) (by omega)])
      have hn := leastN_le l h0
      simp only [Option.bind_some]
      rw [if_pos trivial, put_told, if_neg (by omega), hok, if_pos rfl]
      simp only [Option.bind_some]
      rw [← hlen, get_back0 l hok h0 (by omega)]
      simp only [Option.bind_some]
      rw [if_pos trivial, if_pos trivial, if_neg (by omega), if_neg (by rw [ba_size, bytesM_length l h0]; omega), if_pos trivial, same_told l (by omega) (K + 1) (by omega)]
      simp only [Option.bind_some, Bool.not_true]
      have hj : vinculumlaw06_HmtxAgain.j0 (K + 1) (l.length : Int) (m : Int) l false = some true := by
        simp only [vinculumlaw06_HmtxAgain.j0]
        have wm : wrap64 ((m : Int) - 1) = ((m - 1 : Nat) : Int) := by unfold wrap64; omega
        rw [if_neg (by decide), wm, width_told l (m - 1) (by omega)]
        simp only [Option.bind_some]
        exact widths_told l (by omega) _ (l.length - m) K m rfl (by omega) (by omega) (fun j h1 h2 => by rw [hsame j (by omega) h2, hsame (m - 1) (Nat.le_refl _) (by omega)])
      exact hj
theorem HmtxAgain : vinculumlaw06_HmtxAgain.Pure := fun s g m _ _ _ => ⟨65600 + 1, again_told s g m 65600 (Nat.le_refl _)⟩
end Go.Proofs.Ytjbhnohomhnhjaa.Pure
