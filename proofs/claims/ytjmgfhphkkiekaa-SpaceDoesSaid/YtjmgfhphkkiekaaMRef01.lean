/- The reference of chapter 01 answers as the plain functions that say what package fixed computes. -/
import Derived.Test.YtjmgfhphkkiekaaPRRef01
import Derived.Test.YtjmgfhphkkiekaaMFixed
namespace Go.Proofs.Ytjmgfhphkkiekaa.P
open Go.RowKit Go.Proofs.YtjmgfhphkkiekaaW.PrintWords Go.Proofs.YtjmgfhphkkiekaaW.PrintLast Go.Proofs.YtjmgfhphkkiekaaW.PrintMore

theorem rd_at {l : List Int} {i : Nat} (h : i < l.length) : rd l (i : Int) = l[i] := by
  unfold rd; simp [List.getD_eq_getElem?_getD, List.getElem?_eq_getElem h]
theorem wrap_succ {i n : Nat} (h : i < n) (hn : n ≤ 9223372036854775807) : wrap64 ((i : Int) + 1) = ((i + 1 : Nat) : Int) := by unfold wrap64; omega
theorem ref01_Len (a : Int) : vinculumref01_Len.f a = some (isLen a) := by
  unfold vinculumref01_Len.f isLen
  split
  · rw [Option.some.injEq, decide_eq_decide]; omega
  · symm; rw [Option.some.injEq]; exact decide_eq_false (by omega)
theorem ref01_told (a : Int) : vinculumref01_told.f a = some (if isLen a = true then (a, 0) else (0, 2)) := by
  unfold vinculumref01_told.f
  rw [ref01_Len]; simp only [Option.bind_some]; split <;> rfl
theorem ref01_far (a : Int) (h0 : -9223372036854775807 ≤ a) (h1 : a ≤ 9223372036854775807) : vinculumref01_far.f a = some (if a < 0 then -a else a) := by
  unfold vinculumref01_far.f
  by_cases h : a < 0
  · rw [if_pos h, if_pos h, wrap_id (by omega) (by omega)]
  · rw [if_neg h, if_neg h]
theorem ref01_Nearest (P C : Int) (hP : -1152921502459363329 ≤ P ∧ P ≤ 1152921502459363329) (hC : 0 < C) (hC1 : C ≤ 1073741823) : vinculumref01_Nearest.f P C = some (mdPick P (P.tdiv C) (P.tmod C) C) := by
  unfold vinculumref01_Nearest.f
  rw [ref01_far P (by omega) (by omega)]
  simp only [Option.bind_some]
  rw [if_neg (by omega)]
  have b1 := @tdiv_bd P C
  have b2 := @tmod_bd P C (by omega)
  have b3 := @tmod_sign P C
  have hQ : (if P < 0 then -P else P).tdiv C = if P < 0 then -(P.tdiv C) else P.tdiv C := by split <;> simp [Int.neg_tdiv]
  have hR : (if P < 0 then -P else P).tmod C = if P < 0 then -(P.tmod C) else P.tmod C := by split <;> simp [Int.neg_tmod]
  rw [hQ, hR]
  generalize P.tdiv C = Q at *
  generalize P.tmod C = R at *
  unfold mdPick
  rw [if_neg (show ¬ C < -C by omega)]
  by_cases hp : P < 0
  · simp only [if_pos hp]
    rw [wrap_id (x := 2 * -R) (by omega) (by omega), wrap_id (x := -Q) (by omega) (by omega), wrap_id (x := -Q + 1) (by omega) (by omega), wrap_id (x := - -Q) (by omega) (by omega), wrap_id (x := -(-Q + 1)) (by omega) (by omega)]
    have e2 : (if R < -R then -R else R) = -R := by split <;> omega
    rw [e2]
    by_cases hb : C ≤ 2 * -R
    · rw [if_pos hb, if_pos hb, if_neg (by simp only [decide_eq_decide]; omega)]; rw [Option.some.injEq]; omega
    · rw [if_neg hb, if_neg hb, Option.some.injEq]; omega
  · simp only [if_neg hp]
    rw [wrap_id (x := 2 * R) (by omega) (by omega), wrap_id (x := Q) (by omega) (by omega), wrap_id (x := Q + 1) (by omega) (by omega)]
    have e2 : (if R < -R then -R else R) = R := by split <;> omega
    rw [e2]
    by_cases hb : C ≤ 2 * R
    · rw [if_pos hb, if_pos hb, if_pos (by simp only [decide_eq_decide]; omega)]
    · rw [if_neg hb, if_neg hb]
theorem ref01_MulDiv (a b c : Int) (k : Nat) (hk : 0 < k) : vinculumref01_MulDiv.f k a b c = some (mulDivN a b c) := by
  obtain ⟨k, rfl⟩ : ∃ m, k = m + 1 := ⟨k - 1, by omega⟩
  have out : vinculumref01_MulDiv.j0 (k + 1) a b c true = some (0, 1) := by simp only [vinculumref01_MulDiv.j0, if_true]
  unfold vinculumref01_MulDiv.f
  rw [ref01_Len, ref01_Len, ref01_Len]
  simp only [Option.bind_some]
  by_cases h : areLen [a, b, c] = true ∧ c ≠ 0
  · obtain ⟨ha, hb, hc⟩ := areLen3.1 h.1
    rw [if_pos ha, if_pos hb, if_pos hc, show (c == 0) = false from beq_eq_false_iff_ne.2 h.2]
    have e : mulDivN a b c = (if isLen (mdQ a b c) = true then (mdQ a b c, 0) else (0, 2)) := by unfold mulDivN; exact if_pos h
    rw [e]
    have bp := mul_bd (len_bd ha) (len_bd hb)
    have bc := len_bd hc
    have hc0 := h.2
    simp only [vinculumref01_MulDiv.j0, Bool.false_eq_true, if_false]
    rw [ref01_far c (by omega) (by omega), wrap_id (x := a * b) (by omega) (by omega), wrap_id (x := -(a * b)) (by omega) (by omega)]
    simp only [Option.bind_some]
    by_cases hn : c < 0
    · rw [if_pos hn, if_pos hn, ref01_Nearest _ _ (by omega) (by omega) (by omega)]
      simp only [Option.bind_some]
      have e2 : mdPick (-(a * b)) ((-(a * b)).tdiv (-c)) ((-(a * b)).tmod (-c)) (-c) = mdQ a b c := by
        unfold mdQ
        rw [Int.tdiv_neg, Int.neg_tdiv, Int.neg_neg, Int.tmod_neg, Int.neg_tmod]
        exact pick_turn h.2 tmod_sign.1 tmod_sign.2
      rw [e2, ref01_told]; rfl
    · rw [if_neg hn, if_neg hn, ref01_Nearest _ _ (by omega) (by omega) (by omega)]
      simp only [Option.bind_some]
      have e2 : mdPick (a * b) ((a * b).tdiv c) ((a * b).tmod c) c = mdQ a b c := rfl
      rw [e2, ref01_told]; rfl
  · have e : mulDivN a b c = (0, 1) := by unfold mulDivN; exact if_neg h
    rw [e]
    by_cases ha : isLen a = true
    · rw [if_pos ha]
      by_cases hb : isLen b = true
      · rw [if_pos hb]
        by_cases hc : isLen c = true
        · rw [if_pos hc]
          have : c = 0 := by
            by_cases h0 : c = 0
            · exact h0
            · exact absurd ⟨areLen3.2 ⟨ha, hb, hc⟩, h0⟩ h
          rw [show (c == 0) = true from by simpa using this]; exact out
        · rw [if_neg hc]; exact out
      · rw [if_neg hb]; exact out
    · rw [if_neg ha]; exact out
end Go.Proofs.Ytjmgfhphkkiekaa.P
