/- SpaceBins' pure statement: a Bin that is left has an atom ahead that doesn't end and one behind that isn't bad; the rest is as it was; told again nothing turns. No condition. -/
import Derived.Test.YtjmgfhphkkiekaaPFVinculumlaw25SpaceBins
import Derived.Test.YtjmgfhphkkiekaaMSpace
namespace Go.Proofs.Ytjmgfhphkkiekaa.Pure
open Go.RowKit Go.Proofs.Ytjmgfhphkkiekaa.P Go.Proofs.YtjmgfhphkkiekaaW.PrintWords Go.Proofs.YtjmgfhphkkiekaaW.PrintLast

theorem next_drop (m : List Int) (j : Nat) (h : j < m.length) : nextAt (m.drop j) = if isAt (m.getD j 0) = true then m.getD j 0 else nextAt (m.drop (j + 1)) := by
  rw [List.drop_eq_getElem_cons h, List.getD_eq_getElem?_getD, List.getElem?_eq_getElem h]
  rfl
theorem next_bd (m : List Int) : nextAt m = -1 ∨ isAt (nextAt m) = true := by
  induction m with
  | nil => exact .inl rfl
  | cons c r ih =>
    simp only [nextAt]
    split
    · exact .inr ‹_›
    · exact ih
theorem spec_cons (x c : Int) (r : List Int) : ∃ v, spec x (c :: r) = v :: spec (if isAt v = true then v else x) r ∧ (c ≠ 2 → v = c) ∧ (c = 2 → v = if isEnd x = true ∨ isBad (nextAt r) = true then 0 else 2) := by
  by_cases hc : isAt c = true
  · by_cases h2 : c = 2 ∧ (isEnd x = true ∨ isBad (nextAt r) = true)
    · refine ⟨0, ?_, fun h => absurd h2.1 h, fun _ => (if_pos h2.2).symm⟩
      simp only [spec]; rw [if_pos hc, if_pos h2, if_pos (by decide)]
    · refine ⟨c, ?_, fun _ => rfl, fun h => ?_⟩
      · simp only [spec]; rw [if_pos hc, if_neg h2, if_pos hc]
      · rw [if_neg (fun h3 => h2 ⟨h, h3⟩)]; exact h
  · refine ⟨c, ?_, fun _ => rfl, fun h => ?_⟩
    · simp only [spec]; rw [if_neg hc, if_neg hc]
    · exact absurd (by rw [h]; decide) hc
theorem bins_l1 (l m : List Int) (x4 : Int) (i : Nat) (hm : m.length ≤ 300) : ∀ d k, d < k → i + d < m.length → vinculumlaw25_SpaceBins.l1 k l m x4 i (nextAt (m.drop (i + d + 1))) ((i + d : Nat) : Int) = vinculumlaw25_SpaceBins.j3 (k - 1 - d) l m x4 i (nextAt (m.drop (i + 1))) (decide (x4 = 0 ∨ x4 = 5 ∨ x4 = 7)) := by
  intro d
  induction d with
  | zero =>
    intro k hk hi
    obtain ⟨k, rfl⟩ : ∃ m, k = m + 1 := ⟨k - 1, by omega⟩
    simp only [vinculumlaw25_SpaceBins.l1]
    rw [if_neg (by omega)]
    show _ = vinculumlaw25_SpaceBins.j3 k _ _ _ _ _ _
    by_cases h0 : x4 = 0
    · rw [if_pos h0]; congr 1; symm; exact decide_eq_true (.inl h0)
    rw [if_neg h0]
    by_cases h5 : x4 = 5
    · rw [if_pos h5]; congr 1; symm; exact decide_eq_true (.inr (.inl h5))
    rw [if_neg h5]; congr 1
    by_cases h7 : x4 = 7
    · rw [h7]; decide
    · rw [beq_eq_false_iff_ne.2 h7]; symm; exact decide_eq_false (by omega)
  | succ d ih =>
    intro k hk hi
    obtain ⟨k, rfl⟩ : ∃ m, k = m + 1 := ⟨k - 1, by omega⟩
    have := ih k (by omega) (by omega)
    rw [next_drop m (i + d + 1) (by omega)] at this
    simp only [vinculumlaw25_SpaceBins.l1]
    rw [if_pos (by omega), if_pos (by omega), if_pos (by omega), rd_nat, show wrap64 (((i + (d + 1) : Nat) : Int) - 1) = ((i + d : Nat) : Int) by unfold wrap64; omega]
    rw [show i + (d + 1) = i + d + 1 by omega, show k + 1 - 1 - (d + 1) = k - 1 - d by omega]
    by_cases ha : isAt (m.getD (i + d + 1) 0) = true
    · rw [if_pos ha] at this
      have hb := isAt_iff.1 ha
      rw [if_pos hb.1, if_pos hb.2, this]
    · rw [if_neg ha] at this
      by_cases h1 : m.getD (i + d + 1) 0 ≥ 0
      · have h2 : ¬ m.getD (i + d + 1) 0 ≤ 7 := fun h => ha (isAt_iff.2 ⟨h1, h⟩)
        rw [if_pos h1, if_neg h2, this]
      · rw [if_neg h1, this]
theorem bins_j3 (k : Nat) (l m : List Int) (x4 x6 : Int) (i : Nat) (b : Bool) (h : x6 = -1 ∨ isAt x6 = true) : vinculumlaw25_SpaceBins.j3 (k + 1) l m x4 i x6 b = vinculumlaw25_SpaceBins.j4 k l m x4 i b (!isBad x6) := by
  simp only [vinculumlaw25_SpaceBins.j3]
  have hb : x6 = -1 ∨ (0 ≤ x6 ∧ x6 ≤ 7) := h.imp_right isAt_iff.1
  by_cases h0 : x6 ≥ 0
  · rw [if_pos h0]
    by_cases h3 : x6 = 3
    · rw [if_pos h3, h3]; rfl
    rw [if_neg h3]
    by_cases h5 : x6 = 5
    · rw [if_pos h5, h5]; rfl
    rw [if_neg h5]
    congr 1
    by_cases h6 : x6 = 6
    · rw [h6]; rfl
    · have : isBad x6 = false := by unfold isBad; exact decide_eq_false (by omega)
      rw [this]; simpa using h6
  · rw [if_neg h0]
    have : x6 = -1 := by omega
    rw [this]; rfl
theorem getD_pre (pre r : List Int) (c : Int) (i : Nat) (h : pre.length = i) : (pre ++ c :: r).getD i 0 = c := by rw [← h]; exact getD_mid pre r c
theorem bins_l0 (l m : List Int) (hfix : space_Classes.f m = some m) (hl : m.length ≤ 300) : ∀ (ls pl pre : List Int) (x4 : Int) (k : Nat), (x4 = -1 ∨ isAt x4 = true) → pl.length = pre.length → l = pl ++ ls → m = pre ++ spec x4 ls → 320 * (ls.length + 1) ≤ k → vinculumlaw25_SpaceBins.l0 k l m x4 (pre.length : Int) = some true := by
  intro ls
  induction ls with
  | nil =>
    intro pl pre x4 k hx hp h1 h2 hk
    have e1 : l.length = pre.length := by rw [h1]; simp [hp]
    obtain ⟨k, rfl⟩ : ∃ m, k = m + 1 := ⟨k - 1, by omega⟩
    have sp : vinculumlaw25_spaced.f = some true := rfl
    simp only [vinculumlaw25_SpaceBins.l0]
    rw [if_neg (by omega), sp]
    simp only [Option.bind_some, if_true]
    rw [hfix]
    simp only [Option.bind_some]
    rw [ref03_Ints_refl m (by omega) k (by simp at hk; omega)]
    rfl
  | cons c r ih =>
    intro pl pre x4 k hx hp h1 h2 hk
    obtain ⟨v, hv, hn, h3⟩ := spec_cons x4 c r
    rw [hv] at h2
    have hlen : m.length = pre.length + 1 + r.length := by rw [h2]; simp [spec_length]; omega
    have hll : l.length = m.length := by rw [h1, hlen]; simp [hp]; omega
    have rl : rd l (pre.length : Int) = c := by rw [rd_nat, h1]; exact getD_pre pl r c _ hp
    have rm : rd m (pre.length : Int) = v := by rw [rd_nat, h2]; exact getD_pre pre _ v _ rfl
    rw [List.length_cons] at hk
    obtain ⟨k, rfl⟩ : ∃ m, k = m + 316 := ⟨k - 316, by omega⟩
    have start : vinculumlaw25_SpaceBins.l0 (k + 316) l m x4 (pre.length : Int) = vinculumlaw25_SpaceBins.j1 (k + 315) l m x4 (pre.length : Int) false := by
      simp only [vinculumlaw25_SpaceBins.l0]
      rw [if_pos (by omega), if_pos (by omega), if_pos (by omega), rl, rm]
      by_cases hvc : v = c
      · rw [if_pos hvc]
      · rw [if_neg hvc]
        have hc2 : c = 2 := by
          by_cases h : c = 2
          · exact h
          · exact absurd (hn h) hvc
        have := h3 hc2
        rw [if_pos hc2]
        congr 1
        split at this
        · rw [this]; rfl
        · omega
    rw [start]
    simp only [vinculumlaw25_SpaceBins.j1]
    rw [if_neg Bool.false_ne_true]
    have hd : wrap64 ((l.length : Int) - 1) = ((pre.length + r.length : Nat) : Int) := by unfold wrap64; omega
    have hz : nextAt (m.drop (pre.length + r.length + 1)) = -1 := by rw [List.drop_of_length_le (by omega)]; rfl
    have run := bins_l1 l m x4 pre.length hl r.length (k + 314) (by omega) (by omega)
    rw [hz] at run
    rw [hd, run]
    have hdrop : nextAt (m.drop (pre.length + 1)) = nextAt (spec (if isAt v = true then v else x4) r) := by
      rw [h2, show pre ++ v :: spec (if isAt v = true then v else x4) r = (pre ++ [v]) ++ spec (if isAt v = true then v else x4) r by simp]
      rw [List.drop_left' (by simp)]
    obtain ⟨j, hj⟩ : ∃ j, k + 314 - 1 - r.length = j + 3 := ⟨k + 314 - 1 - r.length - 3, by omega⟩
    rw [hj, bins_j3 _ _ _ _ _ _ _ (next_bd _), hdrop, bad_spec]
    have hlast : decide (x4 = 0 ∨ x4 = 5 ∨ x4 = 7) = !isEnd x4 := by
      have hb : x4 = -1 ∨ (0 ≤ x4 ∧ x4 ≤ 7) := hx.imp_right isAt_iff.1
      unfold isEnd
      rw [← decide_not, decide_eq_decide]; omega
    rw [hlast]
    have j4 : vinculumlaw25_SpaceBins.j4 (j + 2) l m x4 (pre.length : Int) (!isEnd x4) (!isBad (nextAt r)) = vinculumlaw25_SpaceBins.j5 (j + 1) l m x4 (pre.length : Int) false := by
      simp only [vinculumlaw25_SpaceBins.j4]
      rw [if_pos (by omega), if_pos (by omega), rl, rm]
      by_cases hc2 : c = 2
      · have := h3 hc2
        rw [if_pos hc2, if_pos (by omega), this]
        cases isEnd x4 <;> cases isBad (nextAt r) <;> rfl
      · rw [if_neg hc2]
    rw [j4]
    simp only [vinculumlaw25_SpaceBins.j5]
    rw [if_neg Bool.false_ne_true, if_pos (by omega), if_pos (by omega), rm]
    have hw : wrap64 ((pre.length : Int) + 1) = ((pre ++ [v]).length : Int) := by unfold wrap64; simp; omega
    rw [hw]
    by_cases ha : isAt v = true
    · have hb := isAt_iff.1 ha
      rw [if_pos hb.1, if_pos hb.2]
      rw [if_pos ha] at h2
      exact ih (pl ++ [c]) (pre ++ [v]) v j (.inr ha) (by simp [hp]) (by rw [h1]; simp) (by rw [h2]; simp) (by omega)
    · rw [if_neg ha] at h2
      have := ih (pl ++ [c]) (pre ++ [v]) x4 j hx (by simp [hp]) (by rw [h1]; simp) (by rw [h2]; simp) (by omega)
      by_cases g1 : v ≥ 0
      · rw [if_pos g1, if_neg (fun h => ha (isAt_iff.2 ⟨g1, h⟩))]; exact this
      · rw [if_neg g1]; exact this
theorem SpaceBins : vinculumlaw25_SpaceBins.Pure := by
  intro l _ _ _
  refine ⟨320 * (l.length + 1), ?_⟩
  unfold vinculumlaw25_SpaceBins.f
  by_cases h3 : (l.length : Int) > 300
  · rw [if_pos h3]
  rw [if_neg h3]
  have cl : ∀ m : List Int, m.length ≤ 300 → space_Classes.f m = some (classesN m) := by
    intro m hm; unfold space_Classes.f; rw [if_pos (by omega)]
  rw [cl l (by omega)]
  simp only [Option.bind_some]
  have hlen : (classesN l).length = l.length := by rw [classes_spec, spec_length]
  rw [hlen, if_pos rfl]
  refine bins_l0 l (classesN l) ?_ (by omega) l [] [] (-1) _ (.inl rfl) rfl rfl (by rw [classes_spec]; rfl) (Nat.le_refl _)
  rw [cl _ (by omega)]
  rw [classes_spec, classes_spec, spec_spec]
end Go.Proofs.Ytjmgfhphkkiekaa.Pure
