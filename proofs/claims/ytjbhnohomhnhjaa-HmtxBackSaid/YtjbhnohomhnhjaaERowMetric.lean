/- A slice of metrics that came in, opened: a row of the print's form. -/
import Derived.Test.YtjbhnohomhnhjaaP0
import Derived.Deep.SlicePairs
import Derived.ChangeArms
namespace Go.Proofs.Ytjbhnohomhnhjaa.P
open Go.RowKit Go.ChangeShapes Go.WideShapes Go.Proofs.YtjbhnohomhnhjaaW.PrintWords Go.Proofs.YtjbhnohomhnhjaaW.PrintLast Go.Proofs.YtjbhnohomhnhjaaW.PrintMore
set_option linter.unusedSimpArgs false
set_option linter.unusedVariables false
theorem metrics_open {H : Type} {enc : TypeId × Value → H} {W : World} {base fuel : Nat} {spare : Nat → Bool} {held : Bool} {cs : List Value} {x : DataW H × List MemPlace} (h : DataW.trod enc Try.prog W base spare held fuel 22 cs = some x) :
    ∃ (A : Option Addr) (len cap : Nat) (l : List S34), cs = [.slice A len cap] ∧ l.length = len ∧ len ≤ cap ∧ Kd.C k34 W A len l := by
  rcases Deep.open_slice_pairs Try.underlying22 Try.underlying34 (by kernel_rfl) rfl rfl (by kernel_rfl) (by kernel_rfl) h with ⟨hc, _⟩ | ⟨a, len, cap, m, n, V0, V1, D0, D1, P0, P1, hc, _, hl, hm, hmm, _, hx⟩
  · exact ⟨none, 0, 0, [], hc, rfl, Nat.le_refl _, rfl, Nat.zero_le _, fun h => absurd h (Nat.lt_irrefl _)⟩
  · have hlm : len ≤ m := by rw [hmm]; split <;> omega
    have each : ∀ i : Nat, ∃ p : S34, i < len → W.cell? (a.add (i * 2)) = some (.int .i64 p.f0) ∧ W.cell? (a.add (i * 2 + 1)) = some (.int .i64 p.f1) := fun i => by
      by_cases hi : i < len
      · obtain ⟨h0, h1, t0, t1⟩ := hx i (by omega)
        obtain ⟨z0, e0, _, _⟩ := DataW.trod_int Try.underlying3 t0
        obtain ⟨z1, e1, _, _⟩ := DataW.trod_int Try.underlying3 t1
        injection e0 with e0 _
        injection e1 with e1 _
        exact ⟨⟨z0, z1⟩, fun _ => ⟨by rw [h0, e0], by rw [h1, e1]⟩⟩
      · exact ⟨⟨0, 0⟩, fun h => absurd h hi⟩
    obtain ⟨f, hf⟩ := Classical.axiomOfChoice each
    refine ⟨some a, len, cap, (List.range len).map f, hc, by simp, hl, by simp, by unfold maxLen at hm; omega, fun _ => ⟨a, rfl, fun j p hj => ?_⟩⟩
    have hjl : j < len := by
      rcases Nat.lt_or_ge j len with h | h
      · exact h
      · rw [List.getElem?_eq_none (by simpa using h)] at hj; simp at hj
    have hp : f j = p := by
      rw [List.getElem?_map, List.getElem?_range hjl] at hj
      simpa using hj
    obtain ⟨h0, h1⟩ := hf j hjl
    rw [hp] at h0 h1
    refine ⟨[.int .i64 p.f0, .int .i64 p.f1], rfl, k34_mk W p, fun i u hu => ?_⟩
    match i, hu with
    | 0, hu => simp at hu; rw [← hu]; exact h0
    | 1, hu => simp at hu; rw [← hu]; exact h1
end Go.Proofs.Ytjbhnohomhnhjaa.P
