/- A part of the proof of the law ChartSpan: the words, contracts and plain facts that it needs, no more. Each says its own condition. -/
import Derived.Test.YtgifenlfklbdgaaZChartSpang
import Derived.WalkKit
import Derived.WideShapes
namespace Go.Proofs.Ytgifenlfklbdgaa.P
open Go.RowKit Go.WideShapes
set_option linter.unusedSimpArgs false
set_option linter.unusedVariables false
set_option maxRecDepth 100000
theorem span_one {W : World} {base : Nat} {v : Value} (h : Value.okWide Try.prog W .any base 42 v) : ∃ (x0 : Int) (x1 : Int) (x2 : Int) (x3 : Int), v = .agg #[.int .i64 x0, .int .i64 x1, .int .i64 x2, .int .i64 x3] := by
  have hct : Try.prog.cellTypes Try.prog.depth 42 = some [3, 3, 3, 3] := by kernel_rfl
  have hsz : Try.prog.cellsOf 42 = 4 := by kernel_rfl
  simp only [Value.okWide, Try.underlying42] at h
  obtain ⟨cs, rfl, hs, ts, ht, _, hc⟩ := h
  rw [hct] at ht
  obtain rfl := Option.some.inj ht
  rw [hsz] at hs
  clear ht
  obtain ⟨l⟩ := cs
  rcases l with _ | ⟨a0, _ | ⟨a1, _ | ⟨a2, _ | ⟨a3, _ | ⟨a4, l⟩⟩⟩⟩⟩
  case cons.cons.cons.cons.nil =>
    obtain ⟨u, hu, hk⟩ := hc 0 a0 rfl
    obtain rfl := Option.some.inj hu
    have hk' : Value.okWide Try.prog W .any base 3 a0 := by simp only [Value.okWide, Try.underlying3]; exact hk
    obtain ⟨n0, rfl⟩ := okWide_int Try.underlying3 hk'
    clear hu hk hk'
    obtain ⟨u, hu, hk⟩ := hc 1 a1 rfl
    obtain rfl := Option.some.inj hu
    have hk' : Value.okWide Try.prog W .any base 3 a1 := by simp only [Value.okWide, Try.underlying3]; exact hk
    obtain ⟨n1, rfl⟩ := okWide_int Try.underlying3 hk'
    clear hu hk hk'
    obtain ⟨u, hu, hk⟩ := hc 2 a2 rfl
    obtain rfl := Option.some.inj hu
    have hk' : Value.okWide Try.prog W .any base 3 a2 := by simp only [Value.okWide, Try.underlying3]; exact hk
    obtain ⟨n2, rfl⟩ := okWide_int Try.underlying3 hk'
    clear hu hk hk'
    obtain ⟨u, hu, hk⟩ := hc 3 a3 rfl
    obtain rfl := Option.some.inj hu
    have hk' : Value.okWide Try.prog W .any base 3 a3 := by simp only [Value.okWide, Try.underlying3]; exact hk
    obtain ⟨n3, rfl⟩ := okWide_int Try.underlying3 hk'
    clear hu hk hk'
    exact ⟨n0, n1, n2, n3, rfl⟩
  all_goals (exact absurd hs (by simp))
end Go.Proofs.Ytgifenlfklbdgaa.P
