/- SpaceMu's pure statement: 18 mu are the size, none nothing, turned they are turned, and two lengths of mu are their sum or one more or less. No condition. -/
import Derived.Test.YtjmgfhphkkiekaaPFVinculumlaw25SpaceMu
import Derived.Test.YtjmgfhphkkiekaaMFixed
namespace Go.Proofs.Ytjmgfhphkkiekaa.Pure
open Go.RowKit Go.Proofs.Ytjmgfhphkkiekaa.P Go.Proofs.YtjmgfhphkkiekaaW.PrintWords Go.Proofs.YtjmgfhphkkiekaaW.PrintLast

theorem mu_eq (n s : Int) : space_Mu.f n s = some (mulDivN n s 18) := by unfold space_Mu.f fixed_MulDiv.f; rfl
theorem mu_out (k : Nat) (x0 x1 x2 : Int) (hk : 0 < k) : vinculumlaw25_SpaceMu.j0 k x0 x1 x2 true = some true := by
  obtain ⟨k, rfl⟩ : ∃ m, k = m + 1 := ⟨k - 1, by omega⟩
  simp only [vinculumlaw25_SpaceMu.j0, if_true]
  rfl
theorem SpaceMu : vinculumlaw25_SpaceMu.Pure := by
  intro n m s _ _ _
  refine ⟨20, ?_⟩
  unfold vinculumlaw25_SpaceMu.f
  rw [fixed_Is.f_at _ (by simp) _ (by simp), fixed_Is.f_at _ (by simp) _ (by simp)]
  simp only [Option.bind_some]
  by_cases hl : areLen [n, m, s] = true
  case neg => rw [if_neg hl]; exact mu_out _ _ _ _ (by omega)
  rw [if_pos hl, areLen1]
  obtain ⟨hn, hm, hs⟩ := areLen3.1 hl
  have bn := len_bd hn
  have bm := len_bd hm
  have bs := len_bd hs
  have w1 : wrap64 (n + m) = n + m := wrap_id (by omega) (by omega)
  have w2 : wrap64 (-n) = -n := wrap_id (by omega) (by omega)
  rw [w1]
  cases hnm : isLen (n + m) with
  | false => exact mu_out _ _ _ _ (by omega)
  | true =>
    simp only [Bool.not_true]
    simp only [vinculumlaw25_SpaceMu.j0, Bool.false_eq_true, if_false]
    rw [w1, w2, mu_eq, mu_eq, mu_eq, mu_eq, mu_eq, mu_eq]
    have e1 : mulDivN 18 s 18 = (s, 0) := by rw [mulDivN_comm]; exact mulDivN_self s 18 hs (by decide) (by decide)
    have e2 : mulDivN 0 s 18 = (0, 0) := by
      unfold mulDivN
      have : mdQ 0 s 18 = 0 := by unfold mdQ; rw [Int.zero_mul]; rfl
      rw [this, if_pos ⟨areLen3.2 ⟨by decide, hs, by decide⟩, by decide⟩, if_pos (by decide)]
    rw [e1, e2, mulDivN_neg]
    have bq := len_bd (mulDivN_bd n s 18)
    have bx := len_bd (mulDivN_bd m s 18)
    have by_ := len_bd (mulDivN_bd (n + m) s 18)
    have w3 : wrap64 (- -(mulDivN n s 18).1) = (mulDivN n s 18).1 := by rw [Int.neg_neg]; exact wrap_id (by omega) (by omega)
    simp only [Option.bind_some, if_true]
    rw [w3, if_pos rfl]
    have sp : vinculumlaw25_spaced.f = some true := rfl
    rw [sp]
    simp only [Option.bind_some, if_true]
    by_cases h1 : (mulDivN n s 18).2 = 0
    case neg => rw [if_neg h1]
    rw [if_pos h1]
    by_cases h2 : (mulDivN m s 18).2 = 0
    case neg => rw [if_neg h2]
    rw [if_pos h2]
    by_cases h3 : (mulDivN (n + m) s 18).2 = 0
    case neg => rw [if_neg h3]
    rw [if_pos h3]
    obtain ⟨_, _, _, _, q1, _⟩ := mulDiv_ok2 h1
    obtain ⟨_, _, _, _, q2, _⟩ := mulDiv_ok2 h2
    obtain ⟨_, _, _, _, q3, _⟩ := mulDiv_ok2 h3
    obtain ⟨D1, n1⟩ := mdQ_near n s 18 (by decide)
    obtain ⟨D2, n2⟩ := mdQ_near m s 18 (by decide)
    obtain ⟨D3, n3⟩ := mdQ_near (n + m) s 18 (by decide)
    rw [← q1] at n1
    rw [← q2] at n2
    rw [← q3] at n3
    have l1 := n1.lo
    have l2 := n2.lo
    have l3 := n3.lo
    have u1 := n1.hi
    have u2 := n2.hi
    have u3 := n3.hi
    have q1' := n1.eq
    have q2' := n2.eq
    have q3' := n3.eq
    rw [Int.add_mul] at q3'
    rw [if_neg (by decide)] at l1 l2 l3 u1 u2 u3
    generalize (mulDivN n s 18).1 = c at *
    generalize (mulDivN m s 18).1 = x at *
    generalize (mulDivN (n + m) s 18).1 = y at *
    generalize n * s = P at *
    generalize m * s = R at *
    rw [wrap_id (x := y - c) (by omega) (by omega), wrap_id (x := y - c - x) (by omega) (by omega), if_pos (by omega)]
    rw [Option.some.injEq]; exact decide_eq_true (by omega)

end Go.Proofs.Ytjmgfhphkkiekaa.Pure
