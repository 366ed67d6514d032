/- hmtx.Get, told plainly: the plain side, and what it holds between two rounds. -/
import Derived.Test.YtjbhnohomhnhjaaEChunk
import Derived.Test.YtjbhnohomhnhjaaESizes
import Derived.Test.YtjbhnohomhnhjaaEBinGet
namespace Go.Proofs.Ytjbhnohomhnhjaa.P
open Go.RowKit Go.Shelf Go.Proofs.YtjbhnohomhnhjaaW.PrintWords Go.Proofs.YtjbhnohomhnhjaaW.PrintLast Go.Proofs.YtjbhnohomhnhjaaW.PrintMore
set_option linter.unusedSimpArgs false
set_option linter.unusedVariables false
/-! ### The plain side -/
def sumN (l : List Int) : Nat := (l.map Int.natAbs).sum
theorem takes_some : ∀ (l : List Int) (t : ByteArray), sumN l ≤ t.size → ∃ r, takes t l = some r ∧ r.length = l.length
  | [], t, _ => ⟨[], rfl, rfl⟩
  | s :: l, t, h => by
    have h1 : s.natAbs + sumN l ≤ t.size := by simpa [sumN] using h
    have h2 : (t.extract s.natAbs t.size).size = t.size - s.natAbs := by simp
    obtain ⟨r, hr, hl⟩ := takes_some l (t.extract s.natAbs t.size) (by rw [h2]; omega)
    refine ⟨takeN t s :: r, ?_, by simp [hl]⟩
    simp only [takes]
    rw [if_pos (by omega), hr]
    rfl
theorem getN_ok (s : ByteArray) (p : Nat) (l : List Int) (ha : areSizes l = true) (h : p + sumN l ≤ s.size) : ∃ r, getN s (p : Int) l = (r, 0) ∧ r.length = l.length := by
  obtain ⟨r, hr, hl⟩ := takes_some l (s.extract p s.size) (by simp; omega)
  refine ⟨r, ?_, hl⟩
  unfold getN
  rw [if_neg (by rintro (h | h)
                 · omega
                 · rw [ha] at h; exact absurd h (by decide)), if_neg (by omega), Int.toNat_natCast, hr]
theorem areSizes_rep (l : List Int) (h : areSizes l = true) : ∀ k, areSizes (repN l k) = true
  | 0 => rfl
  | k + 1 => by
    have := areSizes_rep l h k
    unfold areSizes at *
    rw [repN, List.all_append, h, this]; rfl
theorem sumN_rep (l : List Int) : ∀ k, sumN (repN l k) = sumN l * k
  | 0 => by simp [repN, sumN]
  | k + 1 => by
    have h1 : sumN (repN l (k + 1)) = sumN l + sumN (repN l k) := by simp [repN, sumN]
    rw [h1, sumN_rep l k, Nat.mul_succ, Nat.add_comm]
def pairM (A : List Int) (k : Nat) : S34 := ⟨rd A ((2 * k : Nat) : Int), rd A ((2 * k + 1 : Nat) : Int)⟩
def pairsM (A : List Int) (m : Nat) : List S34 := (List.finRange m).map (fun x => pairM A x.1)
def rowM (A B : List Int) (m : Nat) : List S34 := pairsM A m ++ B.map (fun b => ⟨(pairM A (m - 1)).f0, b⟩)
/-- hmtx.Get, told plainly. -/
def hmtx_Get.f (s : ByteArray) (g m : Int) : Option (List S34 × Int) :=
  if g < 1 ∨ 65535 < g ∨ m < 1 ∨ g < m then some ([], 1) else if (s.size : Int) < 4 * m + 2 * (g - m) then some ([], 4) else
    some (rowM (getN s 0 (repN [2, -2] m.toNat)).1 (getN s (4 * m) (repN [-2] (g - m).toNat)).1 m.toNat, 0)

/-! ### What the call holds -/
/-- The row so far, in its box B; all that the loop reads (ks) lies as it lay when the loop began (w3). -/
structure RowW (w : World) (B : Nat) (ks : List Nat) (w3 : World) (W : World) (v : Value) (xs : List S34) : Prop where
  c : W.cell? ⟨B, 0, none⟩ = some v
  z : W.frozen? ⟨B, 0, none⟩ = false
  r : Kd.R k34 34 W w.heap.size (fun k => w3.heap.size ≤ k) v xs
  hB : Below w.heap.size w W
  hS : w3.heap.size ≤ W.heap.size
  hK : KeepsB ks w3 W
namespace RowW
variable {w w3 W U : World} {B : Nat} {ks : List Nat} {v v1 : Value} {xs ys : List S34}
/-- Its row's block is one of cells. -/
theorem own_cells (h : RowW w B ks w3 W v xs) (k : Nat) (hk : v.ownBlock = some k) : w3.heap.size ≤ k ∧ k < W.heap.size ∧ ∃ cells q, W.heap[k]? = some (.cells cells q (0, 0)) := by
  have hb := (Kd.R_bound h.r).1 k hk
  obtain ⟨h1, h2, h3, q, hq, cells, hc⟩ := hb
  exact ⟨h1, h3, cells, q, hc⟩
theorem kept (h : RowW w B ks w3 W v xs) (hwB : w.heap.size ≤ B) (hB3 : B < w3.heap.size) (hks : ∀ k ∈ ks, k < w3.heap.size) {row : Option Nat} (hg : W.grownBy U row) (hr : ∀ r, row = some r → w3.heap.size ≤ r ∧ ∃ o : Obj, W.heap[r]? = some o ∧ o.isCells = false) : RowW w B ks w3 U v xs := by
  have hS := h.hS
  have eB : U.heap[B]? = W.heap[B]? := hg.block B (by omega) (fun e => by have := (hr B e.symm).1; omega)
  refine ⟨(cell_of eB).trans h.c, (frozen_of eB).trans h.z, ?_, h.hB.grown hg h.hB.size (fun k e => by have := (hr k e).1; omega), Nat.le_trans h.hS hg.size, fun k hk => ?_⟩
  · refine Kd.R_mono (Kd.R_grown (Kd.R_bound h.r) hg (fun k hk e => ?_)) (fun k hk => hk.1)
    obtain ⟨_, _, _, q, _, cells, hc⟩ := hk
    obtain ⟨_, o, ho, hn⟩ := hr k e.symm
    rw [hc] at ho
    injection ho with ho
    subst ho
    exact absurd hn (by simp [Obj.isCells])
  · have := hks k hk
    exact (hg.block k (by omega) (fun e => by have := (hr k e.symm).1; omega)).trans (h.hK k hk)
/-- An element has been appended, and the row stored in its box. -/
theorem grew (h : RowW w B ks w3 W v xs) (hwB : w.heap.size ≤ B) (hB3 : B < w3.heap.size) (hks : ∀ k ∈ ks, k < w3.heap.size) (hBk : B ∉ ks) (hr : Kd.R k34 34 U w.heap.size (fun k => w3.heap.size ≤ k) v1 ys) (hb : Below w.heap.size w U) (hg : W.grownBy U v.ownBlock) :
    U.cell? ⟨B, 0, none⟩ = some v ∧ U.frozen? ⟨B, 0, none⟩ = false ∧ RowW w B ks w3 (U.setCell ⟨B, 0, none⟩ v1) v1 ys ∧ KeepsB ks W (U.setCell ⟨B, 0, none⟩ v1) ∧
      (∀ (k : Nat) (o : Obj), W.heap[k]? = some o → o.isCells = false → k ≠ B → (U.setCell ⟨B, 0, none⟩ v1).heap[k]? = some o) := by
  have hS := h.hS
  have ne : ∀ k, k < w3.heap.size → some k ≠ v.ownBlock := fun k hk e => by have := (h.own_cells k e.symm).1; omega
  have eB : U.heap[B]? = W.heap[B]? := hg.block B (by omega) (ne B hB3)
  have c1 : U.cell? ⟨B, 0, none⟩ = some v := (cell_of eB).trans h.c
  have z1 : U.frozen? ⟨B, 0, none⟩ = false := (frozen_of eB).trans h.z
  have hkb : KeepsB ks W (U.setCell ⟨B, 0, none⟩ v1) := fun k hk => by
    have hk3 := hks k hk
    have hne : k ≠ B := fun e => hBk (e ▸ hk)
    exact (Below.heap_setCell U ⟨B, 0, none⟩ v1 k hne).trans (hg.block k (by omega) (ne k hk3))
  refine ⟨c1, z1, ⟨World.cell?_setCell_same _ _ _ c1, by rw [World.frozen?_setCell]; exact z1, Kd.R_far hr (fun k hk => by show k ≠ B; omega) _, hb.setCell hwB _, ?_, h.hK.trans hkb⟩, hkb, fun k o hk ho hne => ?_⟩
  · have := hg.size; simp; omega
  · refine (Below.heap_setCell U ⟨B, 0, none⟩ v1 k hne).trans ((hg.block k (Array.getElem?_eq_some_iff.1 hk).1 (fun e => ?_)).trans hk)
    obtain ⟨_, _, cells, q, hc⟩ := h.own_cells k e.symm
    rw [hk] at hc
    injection hc with hc
    subst hc
    exact absurd ho (by simp [Obj.isCells])
theorem keepsFrom {P : Nat} (hB3 : B < P) (h : ∀ (k : Nat) (o : Obj), W.heap[k]? = some o → o.isCells = false → k ≠ B → U.heap[k]? = some o) (hs : W.heap.size ≤ U.heap.size) : KeepsFrom P W U :=
  ⟨hs, fun k o hk ho hn => h k o ho hn (by omega)⟩
end RowW
end Go.Proofs.Ytjbhnohomhnhjaa.P
