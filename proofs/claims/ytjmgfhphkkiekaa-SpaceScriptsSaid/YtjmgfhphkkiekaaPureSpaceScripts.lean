/- SpaceScripts' pure statement: in scripts two atoms are as far apart as in text or not at all, in display as in text, and never more than 5 mu. No condition. -/
import Derived.Test.YtjmgfhphkkiekaaPFVinculumlaw25SpaceScripts
import Derived.Test.YtjmgfhphkkiekaaESpaced
namespace Go.Proofs.Ytjmgfhphkkiekaa.Pure
open Go.RowKit Go.Proofs.Ytjmgfhphkkiekaa.P Go.Proofs.YtjmgfhphkkiekaaW.PrintWords Go.Proofs.YtjmgfhphkkiekaaW.PrintLast

theorem tab_vals : ∀ i, i < 8 → ∀ j, j < 8 → (((tabNums.getD i []).getD j (0, false)).1 = 0 ∨ 3 ≤ ((tabNums.getD i []).getD j (0, false)).1 ∧ ((tabNums.getD i []).getD j (0, false)).1 ≤ 5) ∧ (((tabNums.getD i []).getD j (0, false)).1 = 0 ∨ ((tabNums.getD i []).getD j (0, false)).2 = true ∨ i = 1 ∨ j = 1) := by decide
theorem atom_bd {a : Int} (h : isAtom a = true) : 0 ≤ a ∧ a ≤ 7 := by unfold isAtom at h; exact of_decide_eq_true h
theorem between_vals (a b c : Int) : betweenN a b c = 0 ∨ 3 ≤ betweenN a b c ∧ betweenN a b c ≤ 5 := by
  unfold betweenN
  split
  · rename_i h
    have ha := atom_bd h.1
    have hb := atom_bd h.2.1
    have := (tab_vals a.toNat (by omega) b.toNat (by omega)).1
    split
    · exact .inl rfl
    · exact this
  · exact .inl rfl
theorem SpaceScripts : vinculumlaw25_SpaceScripts.Pure := by
  intro a b c _ _ _
  refine ⟨20, ?_⟩
  unfold vinculumlaw25_SpaceScripts.f space_Between.f
  simp only [Option.bind_some]
  have hv := between_vals a b c
  rw [if_neg (by omega), if_neg (by omega), if_neg (by omega), show (betweenN a b c == 2) = false from beq_eq_false_iff_ne.2 (by omega)]
  simp only [vinculumlaw25_SpaceScripts.j0, Bool.false_eq_true, if_false]
  have sp : vinculumlaw25_spaced.f = some true := rfl
  have out : (c < 0 ∨ c ≥ 8) → vinculumlaw25_SpaceScripts.j1 19 a b c (betweenN a b c) (betweenN a b 2) true = some true := by
    intro h
    simp only [vinculumlaw25_SpaceScripts.j1, if_true]
    have : betweenN a b c = 0 := by unfold betweenN; rw [if_neg]; intro h2; have := atom_bd h2.2.2; omega
    rw [sp, this]; rfl
  by_cases h0 : c < 0
  · rw [if_pos h0]; exact out (.inl h0)
  rw [if_neg h0]
  by_cases h8 : c ≥ 8
  · rw [decide_eq_true h8]; exact out (.inr h8)
  rw [decide_eq_false h8]
  simp only [vinculumlaw25_SpaceScripts.j1, Bool.false_eq_true, if_false]
  rw [sp]
  simp only [Option.bind_some, if_true]
  have hc : isAtom c = true := by unfold isAtom; exact decide_eq_true (by omega)
  have h2 : isAtom 2 = true := by decide
  by_cases h : isAtom a = true ∧ isAtom b = true
  · have e1 : betweenN a b c = (if (tabAt a b).2 = true ∧ 4 ≤ c then 0 else (tabAt a b).1) := by unfold betweenN; exact if_pos ⟨h.1, h.2, hc⟩
    have e2 : betweenN a b 2 = (tabAt a b).1 := by unfold betweenN; rw [if_pos ⟨h.1, h.2, h2⟩, if_neg (by omega)]
    rw [e1, e2]
    by_cases h4 : c < 4
    · rw [if_pos h4, if_neg (by omega)]; simp
    · rw [if_neg h4]
      by_cases ht : (tabAt a b).2 = true ∧ 4 ≤ c
      · rw [if_pos ht, if_pos rfl]
      · rw [if_neg ht]
        by_cases hz : (tabAt a b).1 = 0
        · rw [if_pos hz]
        · rw [if_neg hz, if_pos rfl]
          have ha := atom_bd h.1
          have hb := atom_bd h.2
          have := (tab_vals a.toNat (by omega) b.toNat (by omega)).2
          have ht2 : ¬ (tabAt a b).2 = true := fun h => ht ⟨h, by omega⟩
          have : a = 1 ∨ b = 1 := by
            rcases this with h | h | h | h
            · exact absurd h hz
            · exact absurd h ht2
            · exact .inl (by omega)
            · exact .inr (by omega)
          by_cases h1 : a = 1
          · rw [if_pos h1]
          · rw [if_neg h1]
            have hb1 : b = 1 := by omega
            rw [hb1]; rfl
  · have e1 : ∀ d, betweenN a b d = 0 := fun d => by unfold betweenN; exact if_neg (fun h2 => h ⟨h2.1, h2.2.1⟩)
    rw [e1, e1]
    split
    · rfl
    · rw [if_pos rfl]

end Go.Proofs.Ytjmgfhphkkiekaa.Pure
