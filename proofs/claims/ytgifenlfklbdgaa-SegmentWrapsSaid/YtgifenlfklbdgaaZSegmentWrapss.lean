/- A part of the proof of the law SegmentWraps: the words, contracts and plain facts that it needs, no more. Each says its own condition. -/
import Derived.Test.YtgifenlfklbdgaaZSegmentWrapsp
import Derived.Test.YtgifenlfklbdgaaZSegmentWrapsg
namespace Go.Proofs.Ytgifenlfklbdgaa.P
open Go.RowKit Go.Proofs.YtgifenlfklbdgaaW.PrintWords Go.Proofs.YtgifenlfklbdgaaW.PrintLast Go.Proofs.YtgifenlfklbdgaaW.PrintMore
set_option linter.unusedSimpArgs false
set_option linter.unusedVariables false
theorem right_iff (x : S42) : rightN x = true ↔ (0 ≤ x.f0 ∧ x.f0 ≤ x.f1 ∧ x.f1 ≤ 1114111 ∧ (x.f3 = 0 ∨ x.f3 = 1) ∧ 0 ≤ x.f2 ∧ x.f2 ≤ 65535 ∧ x.f2 + x.f3 * (x.f1 - x.f0) ≤ 65535) := by
  unfold rightN
  simp only [Bool.and_eq_true, Bool.or_eq_true, decide_eq_true_eq, beq_iff_eq]
theorem gly_in {x : S42} (hx : rightN x = true) {c : Int} (h0 : x.f0 ≤ c) (h1 : c ≤ x.f1 + 1) : glyAt x c = x.f2 + x.f3 * (c - x.f0) := by
  obtain ⟨a0, a1, a2, a3, a4, a5, a6⟩ := (right_iff x).1 hx
  unfold glyAt
  have e1 : wrap64 (c - x.f0) = c - x.f0 := by unfold wrap64; omega
  rw [e1]
  rcases a3 with h | h
  · rw [h, Int.zero_mul]; unfold wrap64; omega
  · rw [h, Int.one_mul]; unfold wrap64; omega
theorem ord_cons {x : S42} {l : List S42} (h : ordN (x :: l) = true) : ordN l = true := by
  cases l with
  | nil => rfl
  | cons y r => rw [ord_step, Bool.and_eq_true] at h; exact h.2
theorem ord_head : ∀ {x : S42} {l : List S42}, (∀ y ∈ l, rightN y = true) → ordN (x :: l) = true → ∀ y ∈ l, x.f1 < y.f0
  | x, [], _, _, y, hy => by simp at hy
  | x, z :: r, hr, h, y, hy => by
    rw [ord_step, Bool.and_eq_true] at h
    have h1 := of_decide_eq_true h.1
    rcases List.mem_cons.1 hy with e | hm
    · rw [e]; exact h1
    · have h2 := ord_head (fun q hq => hr q (List.mem_cons_of_mem _ hq)) h.2 y hm
      obtain ⟨_, a1, _⟩ := (right_iff z).1 (hr z List.mem_cons_self)
      omega
theorem isL_all {l : List S42} (h : isL l = true) : l.length ≤ 65536 ∧ (∀ x ∈ l, rightN x = true) ∧ ordN l = true := by
  unfold isL at h
  simp only [Bool.and_eq_true, decide_eq_true_eq, List.all_eq_true] at h
  exact ⟨h.1, h.2.1, h.2.2⟩
theorem isL_mk {l : List S42} (h1 : l.length ≤ 65536) (h2 : ∀ x ∈ l, rightN x = true) (h3 : ordN l = true) : isL l = true := by
  unfold isL
  simp only [Bool.and_eq_true, decide_eq_true_eq, List.all_eq_true]
  exact ⟨h1, h2, h3⟩
theorem ord_at_lt {l : List S42} (hr : ∀ y ∈ l, rightN y = true) (ho : ordN l = true) : ∀ {i j : Nat} (hij : i < j) (hj : j < l.length), (l[i]'(by omega)).f1 < l[j].f0 := by
  induction l with
  | nil => intro i j _ hj; exact absurd hj (by simp)
  | cons x r ih =>
    intro i j hij hj
    obtain ⟨j, rfl⟩ : ∃ m, j = m + 1 := ⟨j - 1, by omega⟩
    have hj' : j < r.length := by simpa using hj
    cases i with
    | zero => exact ord_head (fun q hq => hr q (List.mem_cons_of_mem _ hq)) ho _ (List.getElem_mem hj')
    | succ i => exact ih (fun q hq => hr q (List.mem_cons_of_mem _ hq)) (ord_cons ho) (by omega) hj'
def linN : List S42 → Int → Int
  | [], _ => 0
  | x :: r, c => if x.f0 ≤ c ∧ c ≤ x.f1 then x.f2 + x.f3 * (c - x.f0) else linN r c
theorem lin_none : ∀ (l : List S42) (c : Int), (∀ y ∈ l, ¬ (y.f0 ≤ c ∧ c ≤ y.f1)) → linN l c = 0
  | [], c, _ => rfl
  | x :: r, c, h => by
    unfold linN
    rw [if_neg (h x List.mem_cons_self)]
    exact lin_none r c (fun q hq => h q (List.mem_cons_of_mem _ hq))
theorem lin_skip : ∀ (a b : List S42) (c : Int), (∀ y ∈ a, ¬ (y.f0 ≤ c ∧ c ≤ y.f1)) → linN (a ++ b) c = linN b c
  | [], b, c, _ => rfl
  | x :: r, b, c, h => by
    rw [List.cons_append]
    conv => lhs; unfold linN
    rw [if_neg (h x List.mem_cons_self)]
    exact lin_skip r b c (fun q hq => h q (List.mem_cons_of_mem _ hq))
theorem place_spec {l : List S42} (hr : ∀ y ∈ l, rightN y = true) (ho : ordN l = true) (c : Int) : ∀ (d i j : Nat), j - i ≤ d → i ≤ j → j ≤ l.length → (∀ k (hk : k < l.length), k < i → l[k].f1 < c) → (∀ k (hk : k < l.length), j ≤ k → ¬ l[k].f1 < c) →
    srch l c d i j ≤ l.length ∧ (∀ k (hk : k < l.length), k < srch l c d i j → l[k].f1 < c) ∧ (∀ k (hk : k < l.length), srch l c d i j ≤ k → ¬ l[k].f1 < c)
  | 0, i, j, hd, hij, hj, h1, h2 => by
    have : i = j := by omega
    subst this
    exact ⟨hj, h1, h2⟩
  | d + 1, i, j, hd, hij, hj, h1, h2 => by
    by_cases hlt : i < j
    · rw [srch_step, if_pos hlt]
      obtain ⟨h, hh⟩ : ∃ h, h = (i + j) / 2 := ⟨_, rfl⟩
      rw [← hh]
      have hhl : h < l.length := by omega
      rw [atS_get l h hhl]
      have hmono : ∀ k (hk : k < l.length), k < h → l[k].f1 < l[h].f1 := fun k hk hkh => by
        have := ord_at_lt hr ho hkh hhl
        obtain ⟨_, a1, _⟩ := (right_iff l[h]).1 (hr _ (List.getElem_mem hhl))
        omega
      have hmono2 : ∀ k (hk : k < l.length), h < k → l[h].f1 < l[k].f1 := fun k hk hkh => by
        have := ord_at_lt hr ho hkh hk
        obtain ⟨_, a1, _⟩ := (right_iff l[k]).1 (hr _ (List.getElem_mem hk))
        omega
      by_cases hc : l[h].f1 < c
      · rw [if_pos hc]
        refine place_spec hr ho c d (h + 1) j (by omega) (by omega) hj (fun k hk hkh => ?_) h2
        rcases Nat.lt_or_ge k h with h3 | h3
        · have := hmono k hk h3; omega
        · have : k = h := by omega
          subst this; exact hc
      · rw [if_neg hc]
        refine place_spec hr ho c d i h (by omega) (by omega) (by omega) h1 (fun k hk hkh => ?_)
        rcases Nat.lt_or_ge h k with h3 | h3
        · have := hmono2 k hk h3; omega
        · have : k = h := by omega
          subst this; exact hc
    · have : i = j := by omega
      subst this
      rw [srch_done l c (d + 1) i i (by omega)]
      exact ⟨hj, h1, h2⟩
theorem look_lin {l : List S42} (hr : ∀ y ∈ l, rightN y = true) (ho : ordN l = true) (c : Int) : lookN l c = linN l c := by
  obtain ⟨p0, p1, p2⟩ := place_spec hr ho c l.length 0 l.length (by omega) (by omega) (Nat.le_refl _) (fun k _ h => by omega) (fun k hk h => by omega)
  obtain ⟨p, hp⟩ : ∃ p, p = placeN l c := ⟨_, rfl⟩
  have hp' : srch l c l.length 0 l.length = p := hp.symm
  rw [hp'] at p0 p1 p2
  unfold lookN
  rw [← hp]
  have hsplit : l = l.take p ++ l.drop p := (List.take_append_drop p l).symm
  have hpre : ∀ y ∈ l.take p, ¬ (y.f0 ≤ c ∧ c ≤ y.f1) := fun y hy => by
    obtain ⟨k, hk, rfl⟩ := List.getElem_of_mem hy
    have hkl : k < l.length := by rw [List.length_take] at hk; omega
    have hkp : k < p := by rw [List.length_take] at hk; omega
    rw [List.getElem_take]
    have := p1 k hkl hkp
    omega
  have hl : linN l c = linN (l.drop p) c := by conv => lhs; rw [hsplit]; rw [lin_skip _ _ c hpre]
  rw [hl]
  by_cases hpl : p < l.length
  · rw [List.drop_eq_getElem_cons hpl]
    unfold isAt
    rw [decide_eq_true hpl, Bool.true_and, atS_get l p hpl]
    have h2 := p2 p hpl (Nat.le_refl _)
    have hx := hr _ (List.getElem_mem hpl)
    unfold cmpN linN
    rw [if_neg h2]
    by_cases h0 : l[p].f0 > c
    · rw [if_pos h0, if_neg (by decide), if_neg (by omega)]
      symm
      refine lin_none _ c (fun y hy => ?_)
      obtain ⟨k, hk, rfl⟩ := List.getElem_of_mem hy
      have hk' : p + 1 + k < l.length := by rw [List.length_drop] at hk; omega
      rw [List.getElem_drop]
      have := ord_at_lt hr ho (show p < p + 1 + k by omega) hk'
      obtain ⟨_, a1, _⟩ := (right_iff l[p]).1 hx
      omega
    · rw [if_neg h0, if_pos (by decide), if_pos (by omega)]
      exact gly_in hx (by omega) (by omega)
  · unfold isAt
    rw [decide_eq_false hpl, Bool.false_and, if_neg Bool.false_ne_true, List.drop_eq_nil_of_le (by omega)]
    rfl
end Go.Proofs.Ytgifenlfklbdgaa.P
