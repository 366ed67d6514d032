/- Plain facts on the functions that say what package fixed computes: the nearest quotient, rows' sums; and that the document's rows hold. -/
import Derived.Test.YtjmgfhphkkiekaaEFixed
namespace Go.Proofs.Ytjmgfhphkkiekaa.P
open Go.RowKit Go.Proofs.YtjmgfhphkkiekaaW.PrintWords Go.Proofs.YtjmgfhphkkiekaaW.PrintLast Go.Proofs.YtjmgfhphkkiekaaW.PrintMore

theorem fixed_Is.f_at (l : List Int) (hl : l.length ≤ 9223372036854775806) (k : Nat) (hk : l.length + 1 ≤ k) : fixed_Is.f k l = some (areLen l) :=
  at_rounds (g := fun k => fixed_Is.f k l) (fun k => fixed_Is.mono l k) hk (fixed_Is.f_eq l hl)
theorem areLen1 (a : Int) : areLen [a] = isLen a := by simp [areLen]
theorem isLen_iff {a : Int} : isLen a = true ↔ -1073741823 ≤ a ∧ a ≤ 1073741823 := by unfold isLen; exact decide_eq_true_iff
theorem areLen3 {a b c : Int} : areLen [a, b, c] = true ↔ isLen a = true ∧ isLen b = true ∧ isLen c = true := by simp [areLen]
theorem areLen4 {a b c d : Int} : areLen [a, b, c, d] = true ↔ isLen a = true ∧ isLen b = true ∧ isLen c = true ∧ isLen d = true := by simp [areLen]

/-! ### The nearest quotient -/
theorem tmod_sign {p c : Int} : (0 ≤ p → 0 ≤ p.tmod c) ∧ (p ≤ 0 → p.tmod c ≤ 0) := by
  refine ⟨fun h => Int.tmod_nonneg c h, fun h => ?_⟩
  have := Int.tmod_nonneg c (show 0 ≤ -p by omega)
  rw [Int.neg_tmod] at this
  omega
/-- What is told, times c, lies off the product by D: not farther than half of c, and as far only away from 0. -/
structure Near (P c q D : Int) : Prop where
  eq : q * c = P + D
  lo : -(if c < 0 then -c else c) ≤ 2 * D
  hi : 2 * D ≤ (if c < 0 then -c else c)
  tie : (2 * D = (if c < 0 then -c else c) ∨ 2 * D = -(if c < 0 then -c else c)) → (0 ≤ P ↔ 0 ≤ D)
theorem pick_near (P c : Int) (hc : c ≠ 0) : ∃ D, Near P c (mdPick P (P.tdiv c) (P.tmod c) c) D := by
  have h1 : c * P.tdiv c + P.tmod c = P := Int.mul_tdiv_add_tmod P c
  have h2 := @tmod_bd P c hc
  have h3 := @tmod_sign P c
  generalize P.tdiv c = Q at *
  generalize P.tmod c = R at *
  have e0 : Q * c = P + (-R) := by rw [Int.mul_comm]; omega
  have e1 : (Q + 1) * c = P + (c - R) := by rw [Int.add_mul, Int.one_mul]; omega
  have e2 : (Q - 1) * c = P + (-c - R) := by rw [Int.sub_mul, Int.one_mul]; omega
  unfold mdPick
  by_cases hb : (if c < -c then -c else c) ≤ 2 * (if R < -R then -R else R)
  · rw [if_pos hb]
    by_cases hs : decide (P < 0) = decide (c < 0)
    · rw [if_pos hs]
      have hs' : P < 0 ↔ c < 0 := by simpa using hs
      exact ⟨_, e1, by split <;> (repeat' split at hb) <;> omega, by split <;> (repeat' split at hb) <;> omega, by split <;> (repeat' split at hb) <;> omega⟩
    · rw [if_neg hs]
      have hs' : ¬ (P < 0 ↔ c < 0) := by simpa using hs
      exact ⟨_, e2, by split <;> (repeat' split at hb) <;> omega, by split <;> (repeat' split at hb) <;> omega, by split <;> (repeat' split at hb) <;> omega⟩
  · rw [if_neg hb]
    exact ⟨_, e0, by split <;> (repeat' split at hb) <;> omega, by split <;> (repeat' split at hb) <;> omega, by split <;> (repeat' split at hb) <;> omega⟩
theorem mdQ_near (a b c : Int) (hc : c ≠ 0) : ∃ D, Near (a * b) c (mdQ a b c) D := pick_near (a * b) c hc
theorem mdQ_bd {a b c : Int} (ha : isLen a = true) (hb : isLen b = true) : -1152921502459363330 ≤ mdQ a b c ∧ mdQ a b c ≤ 1152921502459363330 := by
  have h := mul_bd (len_bd ha) (len_bd hb)
  have h1 := @tdiv_bd (a * b) c
  unfold mdQ mdPick
  split <;> (try split) <;> omega
/-- It is told: all are lengths, c is not 0, and the answer is a length. -/
theorem mulDiv_ok {a b c q e : Int} (h : mulDivN a b c = (q, e)) (he : e = 0) : isLen a = true ∧ isLen b = true ∧ isLen c = true ∧ c ≠ 0 ∧ q = mdQ a b c ∧ isLen q = true := by
  unfold mulDivN at h
  split at h
  · rename_i h1
    obtain ⟨ha, hb, hc⟩ := areLen3.1 h1.1
    split at h
    · rename_i h2
      obtain ⟨rfl, rfl⟩ := Prod.mk.inj h
      exact ⟨ha, hb, hc, h1.2, rfl, h2⟩
    · obtain ⟨rfl, rfl⟩ := Prod.mk.inj h; exact absurd he (by decide)
  · obtain ⟨rfl, rfl⟩ := Prod.mk.inj h; exact absurd he (by decide)
theorem mulDiv_ok2 {a b c : Int} (h : (mulDivN a b c).2 = 0) : isLen a = true ∧ isLen b = true ∧ isLen c = true ∧ c ≠ 0 ∧ (mulDivN a b c).1 = mdQ a b c ∧ isLen (mulDivN a b c).1 = true := by
  generalize hm : mulDivN a b c = p at h ⊢
  obtain ⟨q, e⟩ := p
  exact mulDiv_ok hm h
theorem wrap_id {x : Int} (h0 : -9223372036854775808 ≤ x) (h1 : x ≤ 9223372036854775807) : wrap64 x = x := by unfold wrap64; omega
theorem isLen_neg (a : Int) : isLen (-a) = isLen a := by
  unfold isLen; rw [decide_eq_decide]; omega
theorem pick_turn {P Q R c : Int} (hc : c ≠ 0) (h1 : 0 ≤ P → 0 ≤ R) (h2 : P ≤ 0 → R ≤ 0) : mdPick (-P) Q (-R) (-c) = mdPick P Q R c := by
  unfold mdPick
  have e1 : (if -c < - -c then - -c else -c) = (if c < -c then -c else c) := by (repeat' split) <;> omega
  have e2 : (if -R < - -R then - -R else -R) = (if R < -R then -R else R) := by (repeat' split) <;> omega
  rw [e1, e2]
  by_cases hb : (if c < -c then -c else c) ≤ 2 * (if R < -R then -R else R)
  · rw [if_pos hb, if_pos hb]
    have hP : P ≠ 0 := by intro h; have := h1 (by omega); have := h2 (by omega); (repeat' split at hb) <;> omega
    have : (decide (-P < 0) = decide (-c < 0)) ↔ (decide (P < 0) = decide (c < 0)) := by
      simp only [decide_eq_decide]; omega
    by_cases hs : decide (P < 0) = decide (c < 0)
    · rw [if_pos hs, if_pos (this.2 hs)]
    · rw [if_neg hs, if_neg (fun h => hs (this.1 h))]
  · rw [if_neg hb, if_neg hb]
theorem pick_neg {P Q R c : Int} (h1 : 0 ≤ P → 0 ≤ R) (h2 : P ≤ 0 → R ≤ 0) (hc : c ≠ 0) : mdPick (-P) (-Q) (-R) c = -mdPick P Q R c := by
  unfold mdPick
  have e2 : (if -R < - -R then - -R else -R) = (if R < -R then -R else R) := by (repeat' split) <;> omega
  rw [e2]
  by_cases hb : (if c < -c then -c else c) ≤ 2 * (if R < -R then -R else R)
  · rw [if_pos hb, if_pos hb]
    have hP : P ≠ 0 := by intro h; have := h1 (by omega); have := h2 (by omega); (repeat' split at hb) <;> omega
    have : (decide (-P < 0) = decide (c < 0)) ↔ ¬ (decide (P < 0) = decide (c < 0)) := by
      simp only [decide_eq_decide]; omega
    by_cases hs : decide (P < 0) = decide (c < 0)
    · rw [if_pos hs, if_neg (fun h => this.1 h hs)]; omega
    · rw [if_neg hs, if_pos (this.2 hs)]; omega
  · rw [if_neg hb, if_neg hb]
theorem mdQ_comm (a b c : Int) : mdQ b a c = mdQ a b c := by unfold mdQ; rw [Int.mul_comm]
theorem mdQ_turn (a b c : Int) (hc : c ≠ 0) : mdQ (-a) b (-c) = mdQ a b c := by
  unfold mdQ
  rw [Int.neg_mul, Int.tdiv_neg, Int.neg_tdiv, Int.neg_neg, Int.tmod_neg, Int.neg_tmod]
  exact pick_turn hc tmod_sign.1 tmod_sign.2
theorem mdQ_neg (a b c : Int) (hc : c ≠ 0) : mdQ (-a) b c = -mdQ a b c := by
  unfold mdQ
  rw [Int.neg_mul, Int.neg_tdiv, Int.neg_tmod]
  exact pick_neg tmod_sign.1 tmod_sign.2 hc
theorem mdQ_self (a c : Int) (hc : c ≠ 0) : mdQ a c c = a := by
  unfold mdQ mdPick
  rw [Int.mul_tmod_left, Int.mul_tdiv_cancel _ hc]
  rw [if_neg (by (repeat' split) <;> omega)]
theorem mulDivN_comm (a b c : Int) : mulDivN b a c = mulDivN a b c := by
  unfold mulDivN
  rw [mdQ_comm]
  have : areLen [b, a, c] = areLen [a, b, c] := by simp only [areLen, List.all_cons, List.all_nil, Bool.and_true]; cases isLen a <;> cases isLen b <;> rfl
  rw [this]
theorem mulDivN_turn (a b c : Int) : mulDivN (-a) b (-c) = mulDivN a b c := by
  unfold mulDivN
  have : areLen [-a, b, -c] = areLen [a, b, c] := by simp only [areLen, List.all_cons, List.all_nil, Bool.and_true, isLen_neg]
  rw [this]
  by_cases hc : c = 0
  · subst hc; simp
  · rw [mdQ_turn a b c hc]
    simp only [show (-c ≠ 0) ↔ (c ≠ 0) by omega]
theorem mulDivN_neg (a b c : Int) : mulDivN (-a) b c = (-(mulDivN a b c).1, (mulDivN a b c).2) := by
  unfold mulDivN
  have : areLen [-a, b, c] = areLen [a, b, c] := by simp only [areLen, List.all_cons, List.all_nil, Bool.and_true, isLen_neg]
  rw [this]
  by_cases h : areLen [a, b, c] = true ∧ c ≠ 0
  · rw [if_pos h, if_pos h, mdQ_neg a b c h.2, isLen_neg]
    split <;> simp
  · rw [if_neg h, if_neg h]; simp
theorem mulDivN_self (a c : Int) (ha : isLen a = true) (hb : isLen c = true) (hc : c ≠ 0) : mulDivN a c c = (a, 0) := by
  unfold mulDivN
  rw [if_pos ⟨areLen3.2 ⟨ha, hb, hb⟩, hc⟩, mdQ_self a c hc, if_pos ha]
theorem mulDivN_bd (a b c : Int) : isLen (mulDivN a b c).1 = true := by
  unfold mulDivN
  split
  · split
    · assumption
    · decide
  · decide

/-! ### What is told grows -/
theorem near_mono {P P' c q q' D D' : Int} (hc : 0 < c) (h : Near P c q D) (h' : Near P' c q' D') (hP : P ≤ P') : q ≤ q' := by
  by_cases hq : q ≤ q'
  · exact hq
  · exfalso
    have h1 : q' * c ≤ (q - 1) * c := Int.mul_le_mul_of_nonneg_right (by omega) (by omega)
    rw [Int.sub_mul, Int.one_mul, h.eq, h'.eq] at h1
    have t1 := h.tie
    have t2 := h'.tie
    have l1 := h.lo
    have l2 := h'.lo
    have l3 := h.hi
    have l4 := h'.hi
    rw [if_neg (by omega)] at t1 t2 l1 l2 l3 l4
    have e1 : 2 * D = c := by omega
    have e2 : 2 * D' = -c := by omega
    have := t1 (.inl e1)
    have := t2 (.inr e2)
    omega

end Go.Proofs.Ytjmgfhphkkiekaa.P
