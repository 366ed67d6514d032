/- Words, contracts and plain facts of the proof. Each says its own condition. -/
import Derived.Test.YtejdflndgnpkcaaGreatZCmapDoese
import Derived.Deep.Slices
import Derived.ChangeArms
set_option linter.unusedVariables false
set_option maxRecDepth 100000
set_option linter.unusedSimpArgs false
namespace Go.Proofs.YtejdflndgnpkcaaGreat.P
open Go.RowKit Go.ChangeShapes Go.WideShapes PW PL PM
theorem spans_open {H : Type} {enc : TypeId × Value → H} {W : World} {base fuel : Nat} {spare : Nat → Bool} {held : Bool} {cs : List Value} {x : DataW H × List MemPlace} (h : DataW.trod enc Tryz.prog W base spare held fuel 22 cs = some x) :
  ∃ (A : Option Addr) (len cap : Nat) (l : List S61), cs = [.slice A len cap] ∧ l.length = len ∧ len ≤ cap ∧ Kd.C k61 W A len l := by
 have ce : Tryz.prog.cellsOf 61 = 4 := by kernel_rfl
 rcases Deep.open_slice Tryz.underlying22 h with ⟨hc, _⟩ | ⟨a, len, cap, m, n, D, Pl, hc, _, hl, hm, hmm, _, hx⟩
 · exact ⟨none, 0, 0, [], hc, rfl, Nat.le_refl _, rfl, Nat.zero_le _, fun h => absurd h (Nat.lt_irrefl _)⟩
 have hlm : len ≤ m := by rw [hmm]; split <;> omega
 have each : ∀ i : Nat, ∃ p : S61, i < len → W.cell? (a.add (i * 4)) = some (.int .i64 p.f0) ∧ W.cell? (a.add (i * 4 + 1)) = some (.int .i64 p.f1) ∧ W.cell? (a.add (i * 4 + 2)) = some (.int .i64 p.f2) ∧ W.cell? (a.add (i * 4 + 3)) = some (.int .i64 p.f3) := fun i => by
  by_cases hi : i < len
  ·
   obtain ⟨cs', h1, h2⟩ := hx i (by omega);rw [ce] at h1;obtain ⟨_, hlen, hcell⟩ := World.cells?_some h1;obtain ⟨xs, k, hk, hxy, _, hxl, hf⟩ := DataW.trod_struct Tryz.underlying61 h2;match xs, hxl, cs', hlen with
   | [y0, y1, y2, y3], _, [v0, v1, v2, v3], _ =>
    have g0 := hf 0 _ rfl;have t0 : DataW.trod enc Tryz.prog W base spare held k 3 [v0] = some y0 := g0;obtain ⟨z0, e0, _, _⟩ := DataW.trod_int Tryz.underlying3 t0;have c0 := hcell 0 (by omega);rw [add_add] at c0;injection e0 with e0 _
    subst e0;have g1 := hf 1 _ rfl;have t1 : DataW.trod enc Tryz.prog W base spare held k 3 [v1] = some y1 := g1;obtain ⟨z1, e1, _, _⟩ := DataW.trod_int Tryz.underlying3 t1;have c1 := hcell 1 (by omega);rw [add_add] at c1;injection e1 with e1 _
    subst e1;have g2 := hf 2 _ rfl;have t2 : DataW.trod enc Tryz.prog W base spare held k 3 [v2] = some y2 := g2;obtain ⟨z2, e2, _, _⟩ := DataW.trod_int Tryz.underlying3 t2;have c2 := hcell 2 (by omega);rw [add_add] at c2;injection e2 with e2 _
    subst e2;have g3 := hf 3 _ rfl;have t3 : DataW.trod enc Tryz.prog W base spare held k 3 [v3] = some y3 := g3;obtain ⟨z3, e3, _, _⟩ := DataW.trod_int Tryz.underlying3 t3;have c3 := hcell 3 (by omega);rw [add_add] at c3;injection e3 with e3 _
    subst e3;exact ⟨⟨z0, z1, z2, z3⟩, fun _ => ⟨by simpa using c0, by simpa using c1, by simpa using c2, by simpa using c3⟩⟩
  exact ⟨z61, fun h => absurd h hi⟩
 obtain ⟨f, hf⟩ := Classical.axiomOfChoice each;refine ⟨some a, len, cap, (List.range len).map f, hc, by simp, hl, by simp, by unfold maxLen at hm; omega, fun _ => ⟨a, rfl, fun j p hj => ?_⟩⟩
 have hjl : j < len := by
  rcases Nat.lt_or_ge j len with h | h
  · exact h
  rw [List.getElem?_eq_none (by simpa using h)] at hj; simp at hj
 have hp : f j = p := by
  rw [List.getElem?_map, List.getElem?_range hjl] at hj;simpa using hj
 obtain ⟨h0, h1, h2, h3⟩ := hf j hjl;rw [hp] at h0 h1 h2 h3;refine ⟨[.int .i64 p.f0, .int .i64 p.f1, .int .i64 p.f2, .int .i64 p.f3], rfl, k61_mk W p, fun i u hu => ?_⟩;match i, hu with
 | 0, hu => simp at hu; rw [← hu]; exact h0
 | 1, hu => simp at hu; rw [← hu]; exact h1
 | 2, hu => simp at hu; rw [← hu]; exact h2
 | 3, hu => simp at hu; rw [← hu]; exact h3
end Go.Proofs.YtejdflndgnpkcaaGreat.P
