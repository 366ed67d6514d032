/- FixedSums' pure statement: a row's sum is the same the other way round, two rows' sum is the sum of both, and so many times is a sum; for rows of at most 300 numbers. No condition. -/
import Derived.Test.YtlfahjjmpkpngaaPFVinculumlaw01FixedSums
import Derived.Test.YtlfahjjmpkpngaaMFixed
namespace Go.Proofs.Ytlfahjjmpkpngaa.Pure
open Go.RowKit Go.Proofs.Ytlfahjjmpkpngaa.P Go.Proofs.YtlfahjjmpkpngaaW.PrintWords Go.Proofs.YtlfahjjmpkpngaaW.PrintLast

theorem rd_at {l : List Int} {i : Nat} (h : i < l.length) : rd l (i : Int) = l[i] := by
  unfold rd; simp [List.getD_eq_getElem?_getD, List.getElem?_eq_getElem h]
/-- So many of one: a sum of them is told as the product is. -/
theorem sumGo_copies (a : Int) : ∀ (n m : Nat), isLen ((m : Int) * a) = true → n + m ≤ 20 → sumGo (List.replicate n a) ((m : Int) * a) = if isLen (((n + m : Nat) : Int) * a) = true then some (((n + m : Nat) : Int) * a) else none := by
  intro n
  induction n with
  | zero => intro m hm _; rw [List.replicate_zero, Nat.zero_add, if_pos hm]; rfl
  | succ n ih =>
    intro m hm hn
    rw [List.replicate_succ, sumGo]
    have e1 : (m : Int) * a + a = ((m + 1 : Nat) : Int) * a := by rw [Int.natCast_add, Int.add_mul]; simp
    rw [e1]
    by_cases h : isLen (((m + 1 : Nat) : Int) * a) = true
    · rw [if_pos h, ih (m + 1) h (by omega), show n + (m + 1) = n + 1 + m by omega]
    · rw [if_neg h, if_neg]
      intro h2
      apply h
      have b2 := len_bd h2
      apply isLen_iff.2
      -- between 0 and what is farther
      have e3 : ((n + 1 + m : Nat) : Int) * a = ((m + 1 : Nat) : Int) * a + (n : Int) * a := by rw [← Int.add_mul]; congr 1; omega
      by_cases h0 : 0 ≤ a
      · have p1 : 0 ≤ ((m + 1 : Nat) : Int) * a := Int.mul_nonneg (by omega) h0
        have p2 : 0 ≤ (n : Int) * a := Int.mul_nonneg (by omega) h0
        omega
      · have p1 : ((m + 1 : Nat) : Int) * a ≤ 0 := Int.mul_nonpos_of_nonneg_of_nonpos (by omega) (by omega)
        have p2 : (n : Int) * a ≤ 0 := Int.mul_nonpos_of_nonneg_of_nonpos (by omega) (by omega)
        omega
theorem copies (a : Int) (n : Nat) (h0 : 0 < n) (hn : n ≤ 20) : sumN (List.replicate n a) = timesN a (n : Int) := by
  unfold sumN timesN
  have e1 : areLen (List.replicate n a) = isLen a := by
    unfold areLen
    cases h : isLen a with
    | true => rw [List.all_eq_true]; intro x hx; rw [(List.mem_replicate.1 hx).2]; exact h
    | false => rw [List.all_eq_false]; exact ⟨a, List.mem_replicate.2 ⟨by omega, rfl⟩, by simp [h]⟩
  rw [e1]
  by_cases ha : isLen a = true
  · rw [if_pos ha, if_pos ha]
    have hg := sumGo_copies a n 0 (by simp; decide) (by omega)
    rw [show ((0 : Nat) : Int) * a = 0 by simp, Nat.add_zero] at hg
    rw [hg]
    have hnl : isLen (n : Int) = true := isLen_iff.2 (by omega)
    by_cases hz : a = 0
    · rw [if_pos hz, hz, Int.mul_zero, if_pos (by decide)]
    · rw [if_neg hz, if_pos hnl, Int.mul_comm a]
      by_cases hq : isLen ((n : Int) * a) = true
      · rw [if_pos hq, if_pos hq]
      · rw [if_neg hq, if_neg hq]
  · rw [if_neg ha, if_neg ha]
theorem sumN_snd (l : List Int) (h : (sumN l).2 ≠ 0) : (sumN l).1 = 0 := by
  unfold sumN at h ⊢
  by_cases hl : areLen l = true
  · rw [if_pos hl] at h ⊢
    cases hs : sumGo l 0 with
    | some s => rw [hs] at h; exact absurd rfl h
    | none => rfl
  · rw [if_neg hl]
theorem sumN_ok2 {l : List Int} (h : (sumN l).2 = 0) : (sumN l).1 = l.sum := by
  generalize hp : sumN l = p at h ⊢
  obtain ⟨s, e⟩ := p
  exact (sumN_ok hp h).2.1

theorem sums_copies (l : List Int) (n : Int) (hn : 0 ≤ n) (hn2 : n ≤ 20) (hl : 0 < l.length) (d : Nat) : ∀ (k i : Nat), n.toNat - i = d → i ≤ n.toNat → d + 20 ≤ k →
    vinculumlaw01_FixedSums.l1 k l n (List.replicate i l[0]) (i : Int) = some true := by
  induction d with
  | zero =>
    intro k i hd hi hk
    obtain ⟨k, rfl⟩ : ∃ m, k = m + 1 := ⟨k - 1, by omega⟩
    have : i = n.toNat := by omega
    subst this
    simp only [vinculumlaw01_FixedSums.l1]
    rw [if_neg (by omega)]
    unfold fixed_Sum.f fixed_Times.f
    rw [if_pos (by rw [List.length_replicate]; omega), checked_true _ (by omega)]
    simp only [Option.bind_some, if_true]
    rw [if_pos (by omega)]
    have hr : rd l 0 = l[0] := rd_at (i := 0) hl
    rw [hr]
    have en : ((n.toNat : Nat) : Int) = n := by omega
    by_cases h0 : n = 0
    · rw [if_pos h0]
      have e1 : n.toNat = 0 := by omega
      rw [e1, List.replicate_zero, h0]
      have e2 : sumN [] = (0, 0) := by decide
      rw [e2]
      simp only [if_true]
      have e3 : (timesN l[0] 0).1 = 0 := by
        unfold timesN
        by_cases ha : isLen l[0] = true
        · rw [if_pos ha]
          split
          · rfl
          · rw [if_pos (by decide), Int.mul_zero, if_pos (by decide)]
        · rw [if_neg ha]
      rw [e3]; split <;> rfl
    · rw [if_neg h0]
      have e1 := copies l[0] n.toNat (by omega) (by omega)
      rw [en] at e1
      rw [e1, if_pos rfl]
      by_cases h2 : (timesN l[0] n).2 = 0
      · rw [if_pos h2, if_pos h2]; simp
      · rw [if_neg h2]
  | succ d ih =>
    intro k i hd hi hk
    obtain ⟨k, rfl⟩ : ∃ m, k = m + 1 := ⟨k - 1, by omega⟩
    simp only [vinculumlaw01_FixedSums.l1]
    have hr : rd l 0 = l[0] := rd_at (i := 0) hl
    rw [if_pos (by omega), if_pos (by omega), if_pos (by rw [List.length_replicate]; omega), hr, ← List.replicate_succ', show wrap64 ((i : Int) + 1) = ((i + 1 : Nat) : Int) by rw [wrap_id (by omega) (by omega)]; rfl]
    exact ih k (i + 1) (by omega) (by omega) (by omega)

theorem sums_end (k : Nat) (hk : 90 ≤ k) (l : List Int) (n a e : Int) (he : e ≠ 0 → a = 0) : vinculumlaw01_FixedSums.j4 k l n a e = some true := by
  obtain ⟨k, rfl⟩ : ∃ m, k = m + 1 := ⟨k - 1, by omega⟩
  have out : vinculumlaw01_FixedSums.j5 k l n a e true = some true := by
    obtain ⟨k, rfl⟩ : ∃ m, k = m + 1 := ⟨k - 1, by omega⟩
    simp only [vinculumlaw01_FixedSums.j5, if_true]
    rw [checked_true _ (by omega)]
    simp only [Option.bind_some, if_true]
    by_cases h : e = 0
    · rw [if_pos h]
    · rw [if_neg h, he h]; rfl
  simp only [vinculumlaw01_FixedSums.j4]
  by_cases h1 : n < 0
  · rw [if_pos h1]; exact out
  rw [if_neg h1]
  by_cases h2 : n > 20
  · rw [if_pos h2]; exact out
  rw [if_neg h2]
  by_cases h3 : l.length = 0
  · rw [show ((l.length : Int) == 0) = true by simp [h3]]; exact out
  rw [show ((l.length : Int) == 0) = false by rw [beq_eq_false_iff_ne]; omega]
  obtain ⟨k, rfl⟩ : ∃ m, k = m + 1 := ⟨k - 1, by omega⟩
  simp only [vinculumlaw01_FixedSums.j5, Bool.false_eq_true, if_false]
  exact sums_copies l n (by omega) (by omega) (by omega) n.toNat k 0 (by omega) (by omega) (by omega)

theorem sums_tail (k : Nat) (hk : 100 ≤ k) (l m : List Int) (n : Int) (hl : l.length ≤ 300) (hm : m.length ≤ 300) : vinculumlaw01_FixedSums.l0 k l m n l.reverse (-1) = some true := by
  obtain ⟨k, rfl⟩ : ∃ m, k = m + 1 := ⟨k - 1, by omega⟩
  simp only [vinculumlaw01_FixedSums.l0]
  rw [if_neg (by omega), if_pos (by simp only [List.length_nil]; omega)]
  simp only [Option.bind_some, List.nil_append]
  rw [if_pos (by omega)]
  unfold fixed_Sum.f
  rw [if_pos (by omega), if_pos (by rw [List.length_reverse]; omega), if_pos (by omega), if_pos (by rw [List.length_append]; omega)]
  simp only [Option.bind_some]
  have fin : vinculumlaw01_FixedSums.j2 k l n (sumN l).1 (sumN l).2 (sumN m).1 (sumN m).2 (sumN (l ++ m)).1 (sumN (l ++ m)).2 false = some true := by
    obtain ⟨k, rfl⟩ : ∃ m, k = m + 1 := ⟨k - 1, by omega⟩
    simp only [vinculumlaw01_FixedSums.j2, Bool.false_eq_true, if_false]
    have last : ∀ j, 90 ≤ j → vinculumlaw01_FixedSums.j4 j l n (sumN l).1 (sumN l).2 = some true := fun j hj => sums_end j hj l n _ _ (fun h => sumN_snd l h)
    have out : vinculumlaw01_FixedSums.j3 k l n (sumN l).1 (sumN l).2 (sumN m).1 (sumN (l ++ m)).1 false = some true := by
      obtain ⟨k, rfl⟩ : ∃ m, k = m + 1 := ⟨k - 1, by omega⟩
      simp only [vinculumlaw01_FixedSums.j3, Bool.false_eq_true, if_false]
      exact last k (by omega)
    by_cases h1 : (sumN l).2 = 0
    case neg => rw [if_neg h1]; exact out
    rw [if_pos h1]
    by_cases h2 : (sumN m).2 = 0
    case neg => rw [if_neg h2]; exact out
    rw [if_pos h2]
    by_cases h3 : (sumN (l ++ m)).2 = 0
    case neg => rw [show ((sumN (l ++ m)).2 == 0) = false by simpa using h3]; exact out
    rw [show ((sumN (l ++ m)).2 == 0) = true by simpa using h3]
    obtain ⟨k, rfl⟩ : ∃ m, k = m + 1 := ⟨k - 1, by omega⟩
    simp only [vinculumlaw01_FixedSums.j3, if_true]
    unfold fixed_Add.f
    simp only [Option.bind_some]
    have e1 := sumN_ok2 h1
    have e2 := sumN_ok2 h2
    have e3 := sumN_ok2 h3
    have l1 : isLen (sumN l).1 = true := by generalize hp : sumN l = p at h1 ⊢; obtain ⟨s, e⟩ := p; exact (sumN_ok hp h1).2.2
    have l2 : isLen (sumN m).1 = true := by generalize hp : sumN m = p at h2 ⊢; obtain ⟨s, e⟩ := p; exact (sumN_ok hp h2).2.2
    have l3 : isLen (sumN (l ++ m)).1 = true := by generalize hp : sumN (l ++ m) = p at h3 ⊢; obtain ⟨s, e⟩ := p; exact (sumN_ok hp h3).2.2
    have es : (sumN l).1 + (sumN m).1 = (sumN (l ++ m)).1 := by rw [e1, e2, e3, List.sum_append]
    have ea : addN (sumN l).1 (sumN m).1 = ((sumN (l ++ m)).1, 0) := by
      rw [addN_eq]
      have e : (if isLen (sumN l).1 = true ∧ isLen (sumN m).1 = true then (if isLen ((sumN l).1 + (sumN m).1) = true then ((sumN l).1 + (sumN m).1, 0) else (0, 2)) else ((0 : Int), (1 : Int))) = (if isLen ((sumN l).1 + (sumN m).1) = true then ((sumN l).1 + (sumN m).1, 0) else (0, 2)) := if_pos ⟨l1, l2⟩
      rw [e, es, if_pos l3]
    rw [ea]
    simp only [if_true]
    exact last k (by omega)
  by_cases h1 : (sumN l).2 = 0
  case neg => rw [if_neg h1]; exact fin
  rw [if_pos h1]
  by_cases h2 : (sumN l.reverse).2 = 0
  case neg => rw [if_neg h2]; exact fin
  rw [if_pos h2]
  have e1 := sumN_ok2 h1
  have e2 := sumN_ok2 h2
  rw [show ((sumN l).1 != (sumN l.reverse).1) = false by rw [e1, e2, List.sum_reverse]; simp]
  exact fin

theorem sums_back (l m : List Int) (n : Int) (hl : l.length ≤ 300) (hm : m.length ≤ 300) : ∀ (i k : Nat), i ≤ l.length → i + 100 ≤ k →
    vinculumlaw01_FixedSums.l0 k l m n (l.drop i).reverse ((i : Int) - 1) = some true := by
  intro i
  induction i with
  | zero => intro k _ hk; rw [List.drop_zero]; exact sums_tail k (by omega) l m n hl hm
  | succ i ih =>
    intro k hi hk
    obtain ⟨k, rfl⟩ : ∃ m, k = m + 1 := ⟨k - 1, by omega⟩
    have e : ((i + 1 : Nat) : Int) - 1 = (i : Int) := by omega
    have hlt : i < l.length := by omega
    rw [e]
    simp only [vinculumlaw01_FixedSums.l0]
    rw [if_pos (by omega), if_pos (by omega), if_pos (by omega), if_pos (by rw [List.length_reverse, List.length_drop]; omega), rd_at hlt, wrap_id (by omega) (by omega)]
    have := ih k (by omega) (by omega)
    rw [List.drop_eq_getElem_cons hlt, List.reverse_cons] at this
    exact this

theorem FixedSums : vinculumlaw01_FixedSums.Pure := by
  intro l m n _ _ _ _ _ _ _
  refine ⟨1000, ?_⟩
  unfold vinculumlaw01_FixedSums.f vinculumref01_Few.f
  simp only [Option.bind_some]
  have out : vinculumlaw01_FixedSums.j0 1000 l m n true = some true := by simp only [vinculumlaw01_FixedSums.j0, if_true]
  by_cases hl : (l.length : Int) ≤ 300
  case neg => rw [decide_eq_false hl]; exact out
  rw [decide_eq_true hl]
  by_cases hm : (m.length : Int) ≤ 300
  case neg => rw [decide_eq_false hm]; exact out
  rw [decide_eq_true hm]
  simp only [if_true, Bool.not_true]
  simp only [vinculumlaw01_FixedSums.j0, Bool.false_eq_true, if_false]
  rw [wrap_id (by omega) (by omega)]
  have := sums_back l m n (by omega) (by omega) l.length 999 (by omega) (by omega)
  rw [List.drop_length, List.reverse_nil] at this
  exact this

end Go.Proofs.Ytlfahjjmpkpngaa.Pure
