/- Plain facts on classes among others: what classesN computes is told from the left, each Bin by the atom ahead (as it has become) and the atom behind. -/
import Derived.Test.YtjmgfhphkkiekaaEClasses
import Derived.Test.YtjmgfhphkkiekaaPRRef03
namespace Go.Proofs.Ytjmgfhphkkiekaa.P
open Go.RowKit Go.Proofs.YtjmgfhphkkiekaaW.PrintWords Go.Proofs.YtjmgfhphkkiekaaW.PrintLast Go.Proofs.YtjmgfhphkkiekaaW.PrintMore

theorem isAt_iff {a : Int} : isAt a = true ↔ 0 ≤ a ∧ a ≤ 7 := by unfold isAt; exact decide_eq_true_iff
theorem isEnd_iff {c : Int} : isEnd c = true ↔ (c = -1 ∨ c = 1 ∨ c = 2 ∨ c = 3 ∨ c = 4 ∨ c = 6) := by unfold isEnd; exact decide_eq_true_iff
/-- The first atom of a row; -1: there is none. -/
def nextAt : List Int → Int
  | [] => -1
  | c :: r => if isAt c = true then c else nextAt r
def isBad (c : Int) : Bool := decide (c = -1 ∨ c = 3 ∨ c = 5 ∨ c = 6)
theorem isBad_iff {c : Int} : isBad c = true ↔ (c = -1 ∨ c = 3 ∨ c = 5 ∨ c = 6) := by unfold isBad; exact decide_eq_true_iff
/-- From the left, behind the atom 'last'. -/
def spec (last : Int) : List Int → List Int
  | [] => []
  | c :: r => if isAt c = true then (if c = 2 ∧ (isEnd last = true ∨ isBad (nextAt r) = true) then 0 :: spec 0 r else c :: spec c r) else c :: spec last r
theorem spec_length (s : List Int) : ∀ x, (spec x s).length = s.length := by
  induction s with
  | nil => intro x; rfl
  | cons c r ih =>
    intro x
    simp only [spec]
    split
    · split <;> simp [ih]
    · simp [ih]
theorem spec_any {s : List Int} (h : nextAt s ≠ 2) : ∀ a b, spec a s = spec b s := by
  induction s with
  | nil => intro a b; rfl
  | cons c r ih =>
    intro a b
    simp only [nextAt] at h
    simp only [spec]
    by_cases hc : isAt c = true
    · rw [if_pos hc] at h
      rw [if_pos hc, if_pos hc, if_neg (fun h2 => h h2.1), if_neg (fun h2 => h h2.1)]
    · rw [if_neg hc] at h
      rw [if_neg hc, if_neg hc, ih h a b]
theorem next_spec (s : List Int) : ∀ x, nextAt (spec x s) = nextAt s ∨ (nextAt s = 2 ∧ nextAt (spec x s) = 0) := by
  induction s with
  | nil => intro x; exact .inl rfl
  | cons c r ih =>
    intro x
    simp only [spec, nextAt]
    by_cases hc : isAt c = true
    · rw [if_pos hc, if_pos hc]
      split
      · rename_i h2
        refine .inr ⟨h2.1, ?_⟩
        simp only [nextAt]; rw [if_pos (by decide)]
      · refine .inl ?_
        simp only [nextAt]; rw [if_pos hc]
    · rw [if_neg hc, if_neg hc]
      simp only [nextAt]; rw [if_neg hc]
      exact ih x
theorem bad_spec (x : Int) (s : List Int) : isBad (nextAt (spec x s)) = isBad (nextAt s) := by
  rcases next_spec s x with h | ⟨h1, h2⟩
  · rw [h]
  · rw [h1, h2]; decide
theorem spec_spec (s : List Int) : ∀ x, spec x (spec x s) = spec x s := by
  induction s with
  | nil => intro x; rfl
  | cons c r ih =>
    intro x
    by_cases hc : isAt c = true
    · by_cases h2 : c = 2 ∧ (isEnd x = true ∨ isBad (nextAt r) = true)
      · have e : spec x (c :: r) = 0 :: spec 0 r := by simp only [spec]; rw [if_pos hc, if_pos h2]
        rw [e]
        simp only [spec]
        rw [if_pos (by decide), if_neg (by omega), ih]
      · have e : spec x (c :: r) = c :: spec c r := by simp only [spec]; rw [if_pos hc, if_neg h2]
        rw [e]
        simp only [spec]
        rw [if_pos hc, bad_spec, if_neg h2, ih]
    · have e : spec x (c :: r) = c :: spec x r := by simp only [spec]; rw [if_neg hc]
      rw [e]
      simp only [spec]
      rw [if_neg hc, ih]

/-! ### classesN is told so -/
theorem getD_mid (pre r : List Int) (c : Int) : (pre ++ c :: r).getD pre.length 0 = c := by
  rw [List.getD_eq_getElem?_getD, List.getElem?_append_right (Nat.le_refl _)]; simp
theorem set_mid (pre r : List Int) (c y : Int) : (pre ++ c :: r).set pre.length y = (pre ++ [y]) ++ r := by
  rw [List.set_append_right _ _ (Nat.le_refl _)]; simp
theorem set_pre (pre s : List Int) (p : Nat) (y : Int) (h : p < pre.length) : (pre ++ s).set p y = pre.set p y ++ s := List.set_append_left _ _ h
/-- So many steps more, from a state on. -/
def clRun (s : ClSt) (k : Nat) : Nat → ClSt
  | 0 => s
  | n + 1 => clRun (clStep s k) (k + 1) n
theorem clRun_at (l : List Int) : ∀ n k, clRun (clAt l k) k n = clAt l (k + n) := by
  intro n
  induction n with
  | zero => intro k; rfl
  | succ n ih =>
    intro k
    show clRun (clAt l (k + 1)) (k + 1) n = _
    rw [ih, show k + 1 + n = k + (n + 1) by omega]
theorem clRun_spec (s : List Int) : ∀ (pre : List Int) (last : Int) (p : Nat), (last = 2 → p < pre.length) →
    clEnd (clRun ⟨pre ++ s, last, p⟩ pre.length s.length) = (if last = 2 ∧ isBad (nextAt s) = true then pre.set p 0 else pre) ++ spec last s := by
  induction s with
  | nil =>
    intro pre last p hp
    have hb : isBad (nextAt []) = true := by decide
    simp only [List.append_nil, List.length_nil, clRun, clEnd, spec]
    by_cases h : last = 2
    · rw [if_pos h, if_pos ⟨h, hb⟩]
    · rw [if_neg h, if_neg (fun h2 => h h2.1)]
  | cons c r ih =>
    intro pre last p hp
    show clEnd (clRun (clStep ⟨pre ++ c :: r, last, p⟩ pre.length) (pre.length + 1) r.length) = _
    have hg := getD_mid pre r c
    by_cases hc : isAt c = true
    · have hn : nextAt (c :: r) = c := by simp only [nextAt]; rw [if_pos hc]
      rw [hn]
      by_cases hA : c = 2 ∧ isEnd last = true
      · have e : clStep ⟨pre ++ c :: r, last, p⟩ pre.length = ⟨(pre ++ [0]) ++ r, 0, pre.length⟩ := by
          unfold clStep; simp only [hg]; rw [if_pos hc, if_pos hA, set_mid]
        rw [e]
        have := ih (pre ++ [0]) 0 pre.length (by omega)
        rw [List.length_append, List.length_singleton] at this
        rw [this, if_neg (by omega), if_neg (fun h => by have := isBad_iff.1 h.2; omega)]
        have e2 : spec last (c :: r) = 0 :: spec 0 r := by simp only [spec]; rw [if_pos hc, if_pos ⟨hA.1, .inl hA.2⟩]
        rw [e2]; simp
      · by_cases hB : last = 2 ∧ (c = 3 ∨ c = 5 ∨ c = 6)
        · have hpl := hp hB.1
          have hg2 : ((pre ++ c :: r).set p 0).getD pre.length 0 = c := by
            rw [set_pre _ _ _ _ hpl]
            have := getD_mid (pre.set p 0) r c
            rwa [List.length_set] at this
          have e : clStep ⟨pre ++ c :: r, last, p⟩ pre.length = ⟨(pre.set p 0 ++ [c]) ++ r, c, pre.length⟩ := by
            unfold clStep; simp only [hg]; rw [if_pos hc, if_neg hA, if_pos hB]
            simp only [hg2]; rw [set_pre _ _ _ _ hpl]; simp
          rw [e]
          have := ih (pre.set p 0 ++ [c]) c pre.length (by omega)
          rw [List.length_append, List.length_singleton, List.length_set] at this
          rw [this, if_neg (by omega), if_pos ⟨hB.1, isBad_iff.2 (by omega)⟩]
          have e2 : spec last (c :: r) = c :: spec c r := by simp only [spec]; rw [if_pos hc, if_neg (by omega)]
          rw [e2]; simp
        · have e : clStep ⟨pre ++ c :: r, last, p⟩ pre.length = ⟨(pre ++ [c]) ++ r, c, pre.length⟩ := by
            unfold clStep; simp only [hg]; rw [if_pos hc, if_neg hA, if_neg hB]; simp
          rw [e]
          have := ih (pre ++ [c]) c pre.length (by intro _; simp)
          rw [List.length_append, List.length_singleton] at this
          rw [this]
          have hb := isAt_iff.1 hc
          have e3 : (if last = 2 ∧ isBad c = true then pre.set p 0 else pre) = pre := by
            rw [if_neg]
            intro h
            have := isBad_iff.1 h.2
            exact hB ⟨h.1, by omega⟩
          rw [e3]
          by_cases h2 : c = 2 ∧ isBad (nextAt r) = true
          · rw [if_pos h2]
            have e2 : spec last (c :: r) = 0 :: spec 0 r := by simp only [spec]; rw [if_pos hc, if_pos ⟨h2.1, .inr h2.2⟩]
            have hnb : nextAt r ≠ 2 := by intro h; rw [h] at h2; exact absurd h2.2 (by decide)
            rw [e2, spec_any hnb c 0, List.set_append_right _ _ (Nat.le_refl _)]; simp
          · rw [if_neg h2]
            have e2 : spec last (c :: r) = c :: spec c r := by
              simp only [spec]; rw [if_pos hc, if_neg]
              rintro ⟨h3, h4 | h4⟩
              · exact hA ⟨h3, h4⟩
              · exact h2 ⟨h3, h4⟩
            rw [e2]; simp
    · have e : clStep ⟨pre ++ c :: r, last, p⟩ pre.length = ⟨(pre ++ [c]) ++ r, last, p⟩ := by
        unfold clStep; simp only [hg]; rw [if_neg hc]; simp
      rw [e]
      have := ih (pre ++ [c]) last p (by intro h; have := hp h; simp; omega)
      rw [List.length_append, List.length_singleton] at this
      rw [this]
      have hn : nextAt (c :: r) = nextAt r := by simp only [nextAt]; rw [if_neg hc]
      have e2 : spec last (c :: r) = c :: spec last r := by simp only [spec]; rw [if_neg hc]
      rw [hn, e2]
      by_cases h2 : last = 2 ∧ isBad (nextAt r) = true
      · rw [if_pos h2, if_pos h2, List.set_append_left _ _ (hp h2.1)]; simp
      · rw [if_neg h2, if_neg h2]; simp
theorem classes_spec (l : List Int) : classesN l = spec (-1) l := by
  unfold classesN
  have h := clRun_spec l [] (-1) 0 (by omega)
  have h2 := clRun_at l l.length 0
  rw [Nat.zero_add] at h2
  rw [← h2]
  have e : clAt l 0 = ⟨[] ++ l, -1, 0⟩ := rfl
  rw [e]
  simpa using h
theorem rd_nat {l : List Int} (i : Nat) : rd l (i : Int) = l.getD i 0 := by unfold rd; rw [Int.toNat_natCast]
theorem ref03_Ints_same (l : List Int) (hl : l.length ≤ 9223372036854775806) (d : Nat) : ∀ (k i : Nat), l.length - i = d → i ≤ l.length → d < k → vinculumref03_Ints.l0 k l l (i : Int) = some true := by
  induction d with
  | zero =>
    intro k i hd hi hk
    obtain ⟨k, rfl⟩ : ∃ m, k = m + 1 := ⟨k - 1, by omega⟩
    simp only [vinculumref03_Ints.l0]; rw [if_neg (by omega)]
  | succ d ih =>
    intro k i hd hi hk
    obtain ⟨k, rfl⟩ : ∃ m, k = m + 1 := ⟨k - 1, by omega⟩
    simp only [vinculumref03_Ints.l0]
    rw [if_pos (by omega), if_pos (by omega), if_pos (by omega), if_pos trivial, show wrap64 ((i : Int) + 1) = ((i + 1 : Nat) : Int) by unfold wrap64; omega]
    exact ih k (i + 1) (by omega) (by omega) (by omega)
theorem ref03_Ints_refl (l : List Int) (hl : l.length ≤ 9223372036854775806) (k : Nat) (hk : l.length < k) : vinculumref03_Ints.f k l l = some true := by
  unfold vinculumref03_Ints.f
  rw [if_pos rfl]
  have := ref03_Ints_same l hl l.length k 0 (by omega) (by omega) hk
  simpa using this
end Go.Proofs.Ytjmgfhphkkiekaa.P
