/- A part of the proof of the law SegmentDoes: the words, contracts and plain facts that it needs, no more. Each says its own condition. -/
import Derived.Test.YtgifenlfklbdgaaZSegmentDoesw
namespace Go.Proofs.Ytgifenlfklbdgaa.P
open Go.RowKit Go.Proofs.YtgifenlfklbdgaaW.PrintWords Go.Proofs.YtgifenlfklbdgaaW.PrintLast Go.Proofs.YtgifenlfklbdgaaW.PrintMore
set_option linter.unusedSimpArgs false
set_option linter.unusedVariables false
theorem spans_mem : ∀ (L : List Int) (a : Int) (x : S42), x ∈ spansN a L → x.f0 = x.f1 ∧ a ≤ x.f0 ∧ x.f0 < a + L.length ∧ x.f2 ≠ 0 ∧ x.f3 = 1 ∧ x.f2 ∈ L
  | [], a, x, h => by simp [spansN] at h
  | g :: r, a, x, h => by
    unfold spansN at h
    by_cases hg : g = 0
    · rw [if_pos hg] at h
      obtain ⟨h1, h2, h3, h4, h5, h6⟩ := spans_mem r (a + 1) x h
      refine ⟨h1, by omega, by rw [List.length_cons]; omega, h4, h5, List.mem_cons_of_mem _ h6⟩
    · rw [if_neg hg] at h
      rcases List.mem_cons.1 h with e | hm
      · rw [e]
        refine ⟨rfl, Int.le_refl _, by simp; omega, hg, rfl, List.mem_cons_self⟩
      · obtain ⟨h1, h2, h3, h4, h5, h6⟩ := spans_mem r (a + 1) x hm
        refine ⟨h1, by omega, by rw [List.length_cons]; omega, h4, h5, List.mem_cons_of_mem _ h6⟩
theorem ord_mk {x : S42} {l : List S42} (h : ∀ y ∈ l, x.f1 < y.f0) (ho : ordN l = true) : ordN (x :: l) = true := by
  cases l with
  | nil => rfl
  | cons y r => rw [ord_step, decide_eq_true (h y List.mem_cons_self), Bool.true_and]; exact ho
theorem spans_ord : ∀ (L : List Int) (a : Int), ordN (spansN a L) = true
  | [], a => rfl
  | g :: r, a => by
    unfold spansN
    by_cases hg : g = 0
    · rw [if_pos hg]; exact spans_ord r (a + 1)
    · rw [if_neg hg]
      refine ord_mk (fun y hy => ?_) (spans_ord r (a + 1))
      have := (spans_mem r (a + 1) y hy).2.1
      show a < y.f0
      omega
theorem spans_right {L : List Int} {a : Int} (ha : 0 ≤ a) (hb : a + L.length ≤ 65536) (hL : ∀ g ∈ L, 0 ≤ g ∧ g ≤ 65535) : ∀ x ∈ spansN a L, rightN x = true := fun x hx => by
  obtain ⟨h1, h2, h3, h4, h5, h6⟩ := spans_mem L a x hx
  have := hL _ h6
  rw [right_iff]
  refine ⟨by omega, by omega, by omega, .inr h5, by omega, by omega, ?_⟩
  rw [h1, show x.f1 - x.f1 = 0 by omega, Int.mul_zero]; omega
theorem w2_at (pre : List UInt8) (v : Int) (r : List UInt8) (h0 : 0 ≤ v) (h1 : v ≤ 65535) (p : Nat) (hp : pre.length = p) : w2 ⟨(pre ++ (bytesN v 2 ++ r)).toArray⟩ p = v := by
  unfold w2
  rw [← hp, ba_drop]
  exact take_bytes (s := 2) (by decide) (fits2 h0 h1) r
end Go.Proofs.Ytgifenlfklbdgaa.P
