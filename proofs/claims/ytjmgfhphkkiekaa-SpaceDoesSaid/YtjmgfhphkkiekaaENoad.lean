/- A noad, as an argument is laid: eleven cells of their kinds. No condition. -/
import Derived.Test.YtjmgfhphkkiekaaP0
import Derived.WalkKit
import Derived.WideShapes
namespace Go.Proofs.Ytjmgfhphkkiekaa.P
open Go.RowKit Go.WideShapes

theorem noad_cells : Try.prog.cellTypes Try.prog.depth 26 = some [3, 3, 3, 3, 3, 23, 22, 4, 4, 24, 24] := by kernel_rfl
theorem noad_size : Try.prog.cellsOf 26 = 11 := by kernel_rfl
theorem noad_open {W : World} {base : Nat} {v : Value} (h : Value.okWide Try.prog W .any base 26 v) :
    ∃ (k c x2 x3 x4 : Int) (A5 A6 A9 A10 : Option Addr) (l5 c5 l6 c6 l9 c9 l10 c10 : Nat) (b7 b8 : Bool),
      v = .agg #[.int .i64 k, .int .i64 c, .int .i64 x2, .int .i64 x3, .int .i64 x4, .slice A5 l5 c5, .slice A6 l6 c6, .bool b7, .bool b8, .slice A9 l9 c9, .slice A10 l10 c10] := by
  simp only [Value.okWide, Try.underlying26] at h
  obtain ⟨cs, rfl, hs, ts, ht, _, hc⟩ := h
  rw [noad_cells] at ht
  obtain rfl := Option.some.inj ht
  rw [noad_size] at hs
  clear ht
  obtain ⟨l⟩ := cs
  rcases l with _ | ⟨a0, _ | ⟨a1, _ | ⟨a2, _ | ⟨a3, _ | ⟨a4, _ | ⟨a5, _ | ⟨a6, _ | ⟨a7, _ | ⟨a8, _ | ⟨a9, _ | ⟨a10, _ | ⟨a11, l⟩⟩⟩⟩⟩⟩⟩⟩⟩⟩⟩⟩
  case cons.cons.cons.cons.cons.cons.cons.cons.cons.cons.cons.nil =>
    obtain ⟨u, hu, hk⟩ := hc 0 a0 rfl
    obtain rfl := Option.some.inj hu
    have hk' : Value.okWide Try.prog W .any base 3 a0 := by simp only [Value.okWide, Try.underlying3]; exact hk
    obtain ⟨n0, rfl⟩ := okWide_int Try.underlying3 hk'
    clear hu hk hk'
    obtain ⟨u, hu, hk⟩ := hc 1 a1 rfl
    obtain rfl := Option.some.inj hu
    have hk' : Value.okWide Try.prog W .any base 3 a1 := by simp only [Value.okWide, Try.underlying3]; exact hk
    obtain ⟨n1, rfl⟩ := okWide_int Try.underlying3 hk'
    clear hu hk hk'
    obtain ⟨u, hu, hk⟩ := hc 2 a2 rfl
    obtain rfl := Option.some.inj hu
    have hk' : Value.okWide Try.prog W .any base 3 a2 := by simp only [Value.okWide, Try.underlying3]; exact hk
    obtain ⟨n2, rfl⟩ := okWide_int Try.underlying3 hk'
    clear hu hk hk'
    obtain ⟨u, hu, hk⟩ := hc 3 a3 rfl
    obtain rfl := Option.some.inj hu
    have hk' : Value.okWide Try.prog W .any base 3 a3 := by simp only [Value.okWide, Try.underlying3]; exact hk
    obtain ⟨n3, rfl⟩ := okWide_int Try.underlying3 hk'
    clear hu hk hk'
    obtain ⟨u, hu, hk⟩ := hc 4 a4 rfl
    obtain rfl := Option.some.inj hu
    have hk' : Value.okWide Try.prog W .any base 3 a4 := by simp only [Value.okWide, Try.underlying3]; exact hk
    obtain ⟨n4, rfl⟩ := okWide_int Try.underlying3 hk'
    clear hu hk hk'
    obtain ⟨u, hu, hk⟩ := hc 5 a5 rfl
    obtain rfl := Option.some.inj hu
    have hk' : Value.okWide Try.prog W .any base 23 a5 := by simp only [Value.okWide, Try.underlying23]; exact hk
    obtain ⟨n5, m5, q5, rfl⟩ := okWide_slice Try.underlying23 hk'
    clear hu hk hk'
    obtain ⟨u, hu, hk⟩ := hc 6 a6 rfl
    obtain rfl := Option.some.inj hu
    have hk' : Value.okWide Try.prog W .any base 22 a6 := by simp only [Value.okWide, Try.underlying22]; exact hk
    obtain ⟨n6, m6, q6, rfl⟩ := okWide_slice Try.underlying22 hk'
    clear hu hk hk'
    obtain ⟨u, hu, hk⟩ := hc 7 a7 rfl
    obtain rfl := Option.some.inj hu
    have hk' : Value.okWide Try.prog W .any base 4 a7 := by simp only [Value.okWide, Try.underlying4]; exact hk
    obtain ⟨n7, rfl⟩ := okWide_bool Try.underlying4 hk'
    clear hu hk hk'
    obtain ⟨u, hu, hk⟩ := hc 8 a8 rfl
    obtain rfl := Option.some.inj hu
    have hk' : Value.okWide Try.prog W .any base 4 a8 := by simp only [Value.okWide, Try.underlying4]; exact hk
    obtain ⟨n8, rfl⟩ := okWide_bool Try.underlying4 hk'
    clear hu hk hk'
    obtain ⟨u, hu, hk⟩ := hc 9 a9 rfl
    obtain rfl := Option.some.inj hu
    have hk' : Value.okWide Try.prog W .any base 24 a9 := by simp only [Value.okWide, Try.underlying24]; exact hk
    obtain ⟨n9, m9, q9, rfl⟩ := okWide_slice Try.underlying24 hk'
    clear hu hk hk'
    obtain ⟨u, hu, hk⟩ := hc 10 a10 rfl
    obtain rfl := Option.some.inj hu
    have hk' : Value.okWide Try.prog W .any base 24 a10 := by simp only [Value.okWide, Try.underlying24]; exact hk
    obtain ⟨n10, m10, q10, rfl⟩ := okWide_slice Try.underlying24 hk'
    clear hu hk hk'
    exact ⟨n0, n1, n2, n3, n4, n5, n6, n9, n10, m5, q5, m6, q6, m9, q9, m10, q10, n7, n8, rfl⟩
  all_goals (exact absurd hs (by simp))
end Go.Proofs.Ytjmgfhphkkiekaa.P
