/- The document's answers of chapter 25 are the plain ones: classes from the left, the table, lengths of mu. -/
import Derived.Test.YtjmgfhphkkiekaaPRRef25
import Derived.Test.YtjmgfhphkkiekaaESpace
import Derived.Test.YtjmgfhphkkiekaaPFSpaceGap
import Derived.Test.YtjmgfhphkkiekaaMSpace
import Derived.Test.YtjmgfhphkkiekaaMRef01
namespace Go.Proofs.Ytjmgfhphkkiekaa.P
open Go.RowKit Go.Proofs.YtjmgfhphkkiekaaW.PrintWords Go.Proofs.YtjmgfhphkkiekaaW.PrintLast Go.Proofs.YtjmgfhphkkiekaaW.PrintMore

theorem ref25_Atom (a : Int) : vinculumref25_Atom.f a = some (isAt a) := by
  unfold vinculumref25_Atom.f isAt
  split
  · rw [Option.some.injEq, decide_eq_decide]; omega
  · symm; rw [Option.some.injEq]; exact decide_eq_false (by omega)
theorem nextAt_bd (m : List Int) : nextAt m = -1 ∨ (0 ≤ nextAt m ∧ nextAt m ≤ 7) := by
  induction m with
  | nil => exact .inl rfl
  | cons c r ih =>
    simp only [nextAt]
    split
    · exact .inr (isAt_iff.1 ‹_›)
    · exact ih
theorem near_back (l : List Int) (hl : l.length ≤ 300) : ∀ (j k : Nat), j ≤ l.length → 2 * j + 2 ≤ k → vinculumref25_near.l0 k l (-1) ((j : Int) - 1) = some (nextAt (l.take j).reverse) := by
  intro j
  induction j with
  | zero =>
    intro k _ hk
    obtain ⟨k, rfl⟩ : ∃ m, k = m + 2 := ⟨k - 2, by omega⟩
    simp only [vinculumref25_near.l0, vinculumref25_near.j1]
    rw [if_neg (by omega), if_neg Bool.false_ne_true]
    rfl
  | succ j ih =>
    intro k hj hk
    obtain ⟨k, rfl⟩ : ∃ m, k = m + 2 := ⟨k - 2, by omega⟩
    rw [show (((j + 1 : Nat) : Int) - 1) = (j : Int) by omega]
    simp only [vinculumref25_near.l0, vinculumref25_near.j1]
    rw [if_pos (by omega), decide_eq_true (show (j : Int) < (l.length : Int) by omega), if_pos rfl, if_pos (by omega), if_pos (by omega), ref25_Atom]
    have e : (l.take (j + 1)).reverse = l.getD j 0 :: (l.take j).reverse := by
      rw [List.take_add_one, List.getElem?_eq_getElem (show j < l.length by omega), List.getD_eq_getElem?_getD, List.getElem?_eq_getElem (show j < l.length by omega)]
      simp
    rw [rd_nat, e]
    simp only [Option.bind_some, nextAt]
    by_cases ha : isAt (l.getD j 0) = true
    · rw [if_pos ha, if_pos ha]
    · rw [if_neg ha, if_neg ha, show wrap64 ((j : Int) + -1) = (j : Int) - 1 by unfold wrap64; omega]
      exact ih k (by omega) (by omega)
theorem near_fwd (l : List Int) (hl : l.length ≤ 300) : ∀ (d i k : Nat), i + d = l.length → 2 * d + 2 ≤ k → vinculumref25_near.l0 k l 1 (i : Int) = some (nextAt (l.drop i)) := by
  intro d
  induction d with
  | zero =>
    intro i k hi hk
    obtain ⟨k, rfl⟩ : ∃ m, k = m + 2 := ⟨k - 2, by omega⟩
    simp only [vinculumref25_near.l0, vinculumref25_near.j1]
    rw [if_pos (by omega), decide_eq_false (show ¬ (i : Int) < (l.length : Int) by omega), if_neg Bool.false_ne_true, List.drop_of_length_le (by omega)]
    rfl
  | succ d ih =>
    intro i k hi hk
    obtain ⟨k, rfl⟩ : ∃ m, k = m + 2 := ⟨k - 2, by omega⟩
    simp only [vinculumref25_near.l0, vinculumref25_near.j1]
    rw [if_pos (by omega), decide_eq_true (show (i : Int) < (l.length : Int) by omega), if_pos rfl, if_pos (by omega), if_pos (by omega), ref25_Atom, rd_nat]
    have e : l.drop i = l.getD i 0 :: l.drop (i + 1) := by
      rw [List.drop_eq_getElem_cons (show i < l.length by omega), List.getD_eq_getElem?_getD, List.getElem?_eq_getElem (show i < l.length by omega)]; rfl
    rw [e]
    simp only [Option.bind_some, nextAt]
    by_cases ha : isAt (l.getD i 0) = true
    · rw [if_pos ha, if_pos ha]
    · rw [if_neg ha, if_neg ha, show wrap64 ((i : Int) + 1) = ((i + 1 : Nat) : Int) by unfold wrap64; omega]
      exact ih (i + 1) k (by omega) (by omega)
theorem spec_bin_turns {x : Int} {r : List Int} (h : isEnd x = true ∨ isBad (nextAt r) = true) : spec x (2 :: r) = 0 :: spec 0 r := by
  simp only [spec]; rw [if_pos (by decide), if_pos ⟨trivial, h⟩]
theorem spec_bin_stays {x : Int} {r : List Int} (h : ¬ (isEnd x = true ∨ isBad (nextAt r) = true)) : spec x (2 :: r) = 2 :: spec 2 r := by
  simp only [spec]; rw [if_pos (by decide), if_neg (fun h2 => h h2.2)]
theorem ref25_Classes_loop (n : Nat) (hn : n ≤ 300) : ∀ (s pre : List Int) (k : Nat), pre.length + s.length = n → 2 * n + 3 + s.length ≤ k → vinculumref25_Classes.l0 k (pre ++ s) (pre.length : Int) = some (pre ++ spec (nextAt pre.reverse) s) := by
  intro s
  induction s with
  | nil =>
    intro pre k h hk
    obtain ⟨k, rfl⟩ : ∃ m, k = m + 1 := ⟨k - 1, by omega⟩
    simp only [vinculumref25_Classes.l0, List.append_nil, spec]
    rw [if_neg (by omega)]
  | cons c r ih =>
    intro pre k h hk
    rw [List.length_cons] at h hk
    have hlen : (pre ++ c :: r).length = n := by simp; omega
    obtain ⟨k, rfl⟩ : ∃ m, k = m + 1 := ⟨k - 1, by omega⟩
    have hw : wrap64 ((pre.length : Int) + 1) = ((pre.length + 1 : Nat) : Int) := by unfold wrap64; omega
    have next : ∀ y, vinculumref25_Classes.l0 k ((pre ++ [y]) ++ r) ((pre.length + 1 : Nat) : Int) = some ((pre ++ [y]) ++ spec (if isAt y = true then y else nextAt pre.reverse) r) := by
      intro y
      have := ih (pre ++ [y]) k (by simp; omega) (by omega)
      rw [List.length_append, List.length_singleton] at this
      rw [this]
      have e : nextAt (pre ++ [y]).reverse = if isAt y = true then y else nextAt pre.reverse := by simp [nextAt]
      rw [e]
    simp only [vinculumref25_Classes.l0]
    rw [if_pos (by omega), if_pos (by omega), rd_nat, getD_mid, hw, Int.toNat_natCast, set_mid]
    by_cases hc : c = 2
    · subst hc
      rw [if_pos rfl]
      have b1 : vinculumref25_near.f k (pre ++ 2 :: r) (pre.length : Int) (-1) = some (nextAt pre.reverse) := by
        unfold vinculumref25_near.f
        rw [show wrap64 ((pre.length : Int) + -1) = (pre.length : Int) - 1 by unfold wrap64; omega, near_back _ (by omega) _ _ (by omega) (by omega), List.take_left']
        rfl
      have b2 : vinculumref25_near.f k (pre ++ 2 :: r) (pre.length : Int) 1 = some (nextAt r) := by
        unfold vinculumref25_near.f
        rw [hw, near_fwd _ (by omega) r.length _ _ (by omega) (by omega)]
        congr 2
        rw [show pre ++ 2 :: r = (pre ++ [2]) ++ r by simp, List.drop_left' (by simp)]
      rw [b1, b2]
      simp only [Option.bind_some]
      have x1 := nextAt_bd pre.reverse
      have x2 := nextAt_bd r
      have n0 := next 0
      have n2 := next 2
      rw [if_pos (by decide)] at n0 n2
      by_cases hb : isEnd (nextAt pre.reverse) = true ∨ isBad (nextAt r) = true
      · rw [spec_bin_turns hb, show pre ++ 0 :: spec 0 r = (pre ++ [0]) ++ spec 0 r by simp]
        have hb2 := hb.imp isEnd_iff.1 isBad_iff.1
        generalize nextAt pre.reverse = x at *
        generalize nextAt r = y at *
        by_cases q1 : x < 0
        · rw [if_pos q1]; exact n0
        rw [if_neg q1]
        by_cases q2 : x = 1
        · rw [if_pos q2]; exact n0
        rw [if_neg q2]
        by_cases q3 : x = 2
        · rw [if_pos q3]; exact n0
        rw [if_neg q3]
        by_cases q4 : x = 3
        · rw [if_pos q4]; exact n0
        rw [if_neg q4]
        by_cases q5 : x = 4
        · rw [if_pos q5]; exact n0
        rw [if_neg q5]
        by_cases q6 : x = 6
        · rw [if_pos q6]; exact n0
        rw [if_neg q6]
        by_cases q7 : y < 0
        · rw [if_pos q7]; exact n0
        rw [if_neg q7]
        by_cases q8 : y = 3
        · rw [if_pos q8]; exact n0
        rw [if_neg q8]
        by_cases q9 : y = 5
        · rw [if_pos q9]; exact n0
        rw [if_neg q9]
        rw [if_pos (by omega)]; exact n0
      · rw [spec_bin_stays hb, show pre ++ 2 :: spec 2 r = (pre ++ [2]) ++ spec 2 r by simp]
        have he : ¬ (nextAt pre.reverse = -1 ∨ nextAt pre.reverse = 1 ∨ nextAt pre.reverse = 2 ∨ nextAt pre.reverse = 3 ∨ nextAt pre.reverse = 4 ∨ nextAt pre.reverse = 6) := fun h => hb (.inl (isEnd_iff.2 h))
        have hf : ¬ (nextAt r = -1 ∨ nextAt r = 3 ∨ nextAt r = 5 ∨ nextAt r = 6) := fun h => hb (.inr (isBad_iff.2 h))
        rw [if_neg (by omega), if_neg (by omega), if_neg (by omega), if_neg (by omega), if_neg (by omega), if_neg (by omega), if_neg (by omega), if_neg (by omega), if_neg (by omega), if_neg (by omega)]
        rw [← n2]; simp
    · rw [if_neg hc]
      have n1 := next c
      rw [show (pre ++ [c]) ++ r = pre ++ c :: r by simp] at n1
      rw [n1]
      simp only [spec]
      by_cases ha : isAt c = true
      · rw [if_pos ha, if_pos ha, if_neg (fun h => hc h.1)]; simp
      · rw [if_neg ha, if_neg ha]; simp
theorem ref03_Own (l : List Int) (hl : l.length ≤ 300) : vinculumref03_Own.f l = some l := by
  unfold vinculumref03_Own.f
  rw [if_pos (by simp; omega)]; rfl
theorem ref25_Classes (l : List Int) (hl : l.length ≤ 300) (k : Nat) (hk : 1000 ≤ k) : vinculumref25_Classes.f k l = some (classesN l) := by
  unfold vinculumref25_Classes.f
  rw [ref03_Own l hl, classes_spec]
  exact ref25_Classes_loop l.length hl l [] k (by simp) (by omega)
theorem ref25_Mu (n s : Int) (k : Nat) (hk : 0 < k) : vinculumref25_Mu.f k n s = some (mulDivN n s 18) := by
  unfold vinculumref25_Mu.f
  rw [ref01_MulDiv n s 18 k hk]; rfl
def tabRef : List Int := [0, 1, 12, 13, 0, 0, 0, 11, 1, 1, 0, 13, 0, 0, 0, 11, 12, 12, 0, 0, 12, 0, 0, 12, 13, 13, 0, 0, 13, 0, 0, 13, 0, 0, 0, 0, 0, 0, 0, 0, 0, 1, 12, 13, 0, 0, 0, 11, 11, 11, 0, 11, 11, 11, 11, 11, 11, 1, 12, 13, 11, 0, 11, 11]
theorem tab_ref : ∀ i, i < 8 → ∀ j, j < 8 → 0 ≤ tabRef.getD (8 * i + j) 0 ∧ tabRef.getD (8 * i + j) 0 ≤ 13 ∧ ((tabNums.getD i []).getD j (0, false)).1 = (if (tabRef.getD (8 * i + j) 0).tmod 10 = 0 then 0 else (tabRef.getD (8 * i + j) 0).tmod 10 + 2) ∧ ((tabRef.getD (8 * i + j) 0).tmod 10 = 0 ∨ ((tabNums.getD i []).getD j (0, false)).2 = decide (10 ≤ tabRef.getD (8 * i + j) 0)) := by decide
theorem atom_in {a : Int} : isAtom a = true ↔ 0 ≤ a ∧ a ≤ 7 := by unfold isAtom; exact decide_eq_true_iff
theorem ref25_Between (a b c : Int) (k : Nat) (hk : 0 < k) : vinculumref25_Between.f k a b c = some (betweenN a b c) := by
  obtain ⟨k, rfl⟩ : ∃ m, k = m + 1 := ⟨k - 1, by omega⟩
  unfold vinculumref25_Between.f
  have out : (¬ (isAtom a = true ∧ isAtom b = true ∧ isAtom c = true)) → vinculumref25_Between.j0 (k + 1) a b c true = some (betweenN a b c) := by
    intro h
    simp only [vinculumref25_Between.j0, if_true]
    unfold betweenN; rw [if_neg h]
  have ea : isAt a = isAtom a := rfl
  have eb : isAt b = isAtom b := rfl
  rw [ref25_Atom, ref25_Atom, ea, eb]
  simp only [Option.bind_some]
  by_cases ha : isAtom a = true
  case neg => rw [if_neg ha]; exact out (fun h => ha h.1)
  rw [if_pos ha]
  by_cases hb : isAtom b = true
  case neg => rw [if_neg hb]; exact out (fun h => hb h.2.1)
  rw [if_pos hb]
  have hi : vinculumref22_Is.f c = some (isAtom c) := by
    unfold vinculumref22_Is.f isAtom
    split
    · rw [Option.some.injEq, decide_eq_decide]; omega
    · symm; rw [Option.some.injEq]; exact decide_eq_false (by omega)
  rw [hi]
  simp only [Option.bind_some]
  by_cases hc : isAtom c = true
  case neg => rw [show (!isAtom c) = true by simpa using hc]; exact out (fun h => hc h.2.2)
  rw [hc]
  simp only [Bool.not_true, vinculumref25_Between.j0]
  rw [if_neg Bool.false_ne_true]
  have da := atom_in.1 ha
  have db := atom_in.1 hb
  have ht : vinculumref25_table.f = some tabRef := rfl
  rw [ht]
  simp only [Option.bind_some]
  have hw : wrap64 (wrap64 (8 * a) + b) = ((8 * a.toNat + b.toNat : Nat) : Int) := by unfold wrap64; omega
  have hl : (tabRef.length : Int) = 64 := rfl
  rw [hw, if_pos (by omega), if_pos (by omega), rd_nat]
  obtain ⟨t1, t2, t3, t4⟩ := tab_ref a.toNat (by omega) b.toNat (by omega)
  have eB : betweenN a b c = (if (tabAt a b).2 = true ∧ 4 ≤ c then 0 else (tabAt a b).1) := by unfold betweenN; exact if_pos ⟨ha, hb, hc⟩
  rw [eB]
  unfold tabAt
  generalize hn : tabRef.getD (8 * a.toNat + b.toNat) 0 = n at *
  generalize (tabNums.getD a.toNat []).getD b.toNat (0, false) = x at *
  have hm : 0 ≤ n.tmod 10 ∧ n.tmod 10 ≤ 9 := by
    have : n = 0 ∨ n = 1 ∨ n = 2 ∨ n = 3 ∨ n = 4 ∨ n = 5 ∨ n = 6 ∨ n = 7 ∨ n = 8 ∨ n = 9 ∨ n = 10 ∨ n = 11 ∨ n = 12 ∨ n = 13 := by omega
    rcases this with h | h | h | h | h | h | h | h | h | h | h | h | h | h <;> subst h <;> decide
  have w2 : wrap64 (n.tmod 10 + 2) = n.tmod 10 + 2 := by unfold wrap64; omega
  rw [w2]
  by_cases hz : n.tmod 10 = 0
  · rw [if_pos hz] at t3
    rw [if_pos hz, t3]
    simp
  · rw [if_neg hz] at t3
    rw [if_neg hz, t3, t4.resolve_left hz]
    by_cases h10 : n ≥ 10
    · rw [if_pos h10, decide_eq_true (show 10 ≤ n from h10)]
      by_cases h4 : c ≥ 4
      · rw [if_pos h4, if_pos ⟨rfl, h4⟩]
      · rw [if_neg h4, if_neg (fun h => h4 h.2)]
    · rw [if_neg h10, decide_eq_false (show ¬ 10 ≤ n from h10), if_neg (fun h => Bool.false_ne_true h.1)]
theorem ref25_Gap (a b c s : Int) (k : Nat) (hk : 0 < k) : vinculumref25_Gap.f k a b c s = some (mulDivN (betweenN a b c) s 18) := by
  unfold vinculumref25_Gap.f
  rw [ref25_Between a b c k hk]
  simp only [Option.bind_some]
  rw [ref25_Mu _ s k hk]; rfl
theorem space_Mu_eq (n s : Int) : space_Mu.f n s = some (mulDivN n s 18) := by unfold space_Mu.f fixed_MulDiv.f; rfl
theorem space_Gap_eq (a b c s : Int) : space_Gap.f a b c s = some (mulDivN (betweenN a b c) s 18) := by
  unfold space_Gap.f space_Between.f
  simp only [Option.bind_some]
  rw [space_Mu_eq]; rfl
end Go.Proofs.Ytjmgfhphkkiekaa.P
