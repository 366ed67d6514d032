/- A part of the proof of the law GlyfDeep: the words, contracts and plain facts that it needs, no more. Each says its own condition. -/
import Derived.Test.YtjmliafplgjkhaaZGlyfDeepi
import Derived.WalkKit
import Derived.WideShapes
namespace Go.Proofs.Ytjmliafplgjkhaa.P
open Go.RowKit Go.WideShapes
set_option linter.unusedSimpArgs false
set_option linter.unusedVariables false
theorem head_one {W : World} {base : Nat} {v : Value} (h : Value.okWide Try.prog W .any base 37 v) : ∃ (x0 : Int) (x1 : Int) (x2 : Int) (x3 : Int) (x4 : Int) (x5 : Bool), v = .agg #[.int .i64 x0, .int .i64 x1, .int .i64 x2, .int .i64 x3, .int .i64 x4, .bool x5] := by
  have hct : Try.prog.cellTypes Try.prog.depth 37 = some [3, 3, 3, 3, 3, 4] := by kernel_rfl
  have hsz : Try.prog.cellsOf 37 = 6 := by kernel_rfl
  simp only [Value.okWide, Try.underlying37] at h
  obtain ⟨cs, rfl, hs, ts, ht, _, hc⟩ := h
  rw [hct] at ht
  obtain rfl := Option.some.inj ht
  rw [hsz] at hs
  clear ht
  obtain ⟨l⟩ := cs
  rcases l with _ | ⟨a0, _ | ⟨a1, _ | ⟨a2, _ | ⟨a3, _ | ⟨a4, _ | ⟨a5, _ | ⟨a6, l⟩⟩⟩⟩⟩⟩⟩
  case cons.cons.cons.cons.cons.cons.nil =>
    obtain ⟨u, hu, hk⟩ := hc 0 a0 rfl
    obtain rfl := Option.some.inj hu
    have hk' : Value.okWide Try.prog W .any base 3 a0 := by simp only [Value.okWide, Try.underlying3]; exact hk
    obtain ⟨n0, rfl⟩ := okWide_int Try.underlying3 hk'
    clear hu hk hk'
    obtain ⟨u, hu, hk⟩ := hc 1 a1 rfl
    obtain rfl := Option.some.inj hu
    have hk' : Value.okWide Try.prog W .any base 3 a1 := by simp only [Value.okWide, Try.underlying3]; exact hk
    obtain ⟨n1, rfl⟩ := okWide_int Try.underlying3 hk'
    clear hu hk hk'
    obtain ⟨u, hu, hk⟩ := hc 2 a2 rfl
    obtain rfl := Option.some.inj hu
    have hk' : Value.okWide Try.prog W .any base 3 a2 := by simp only [Value.okWide, Try.underlying3]; exact hk
    obtain ⟨n2, rfl⟩ := okWide_int Try.underlying3 hk'
    clear hu hk hk'
    obtain ⟨u, hu, hk⟩ := hc 3 a3 rfl
    obtain rfl := Option.some.inj hu
    have hk' : Value.okWide Try.prog W .any base 3 a3 := by simp only [Value.okWide, Try.underlying3]; exact hk
    obtain ⟨n3, rfl⟩ := okWide_int Try.underlying3 hk'
    clear hu hk hk'
    obtain ⟨u, hu, hk⟩ := hc 4 a4 rfl
    obtain rfl := Option.some.inj hu
    have hk' : Value.okWide Try.prog W .any base 3 a4 := by simp only [Value.okWide, Try.underlying3]; exact hk
    obtain ⟨n4, rfl⟩ := okWide_int Try.underlying3 hk'
    clear hu hk hk'
    obtain ⟨u, hu, hk⟩ := hc 5 a5 rfl
    obtain rfl := Option.some.inj hu
    have hk' : Value.okWide Try.prog W .any base 4 a5 := by simp only [Value.okWide, Try.underlying4]; exact hk
    obtain ⟨n5, rfl⟩ := okWide_bool Try.underlying4 hk'
    clear hu hk hk'
    exact ⟨n0, n1, n2, n3, n4, n5, rfl⟩
  all_goals (exact absurd hs (by simp))
end Go.Proofs.Ytjmliafplgjkhaa.P
