/- A part of the proof of the law SegmentDoes: the words, contracts and plain facts that it needs, no more. Each says its own condition. -/
import Derived.Test.YtgifenlfklbdgaaZSegmentDoesn
import Derived.Test.YtgifenlfklbdgaaZSegmentDoesw
section
namespace Go.Proofs.Ytgifenlfklbdgaa.P
open Go.RowKit Go.Shelf Go.Proofs.YtgifenlfklbdgaaW.PrintWords Go.Proofs.YtgifenlfklbdgaaW.PrintLast Go.Proofs.YtgifenlfklbdgaaW.PrintMore
set_option linter.unusedSimpArgs false
set_option linter.unusedVariables false
attribute [local go_sem] Oper.semAt_some
def w4 (s : ByteArray) (p : Nat) : Int := takeN (s.extract p s.size) 4
theorem take_of {t : ByteArray} {s : Int} {r : List Int} {q : List Int} (h : s.natAbs ≤ t.size) (hq : takes (t.extract s.natAbs t.size) r = some q) : takes t (s :: r) = some (takeN t s :: q) := by
  simp only [takes]
  rw [if_pos h, hq]
  rfl
structure RowS (w : World) (B : Nat) (ks : List Nat) (w3 : World) (W : World) (v : Value) (xs : List S42) : Prop where
  c : W.cell? ⟨B, 0, none⟩ = some v
  z : W.frozen? ⟨B, 0, none⟩ = false
  r : Kd.R k42 42 W w.heap.size (fun k => w3.heap.size ≤ k) v xs
  hB : Below w.heap.size w W
  hS : w3.heap.size ≤ W.heap.size
  hK : KeepsB ks w3 W
namespace RowS
variable {w w3 W U : World} {B : Nat} {ks : List Nat} {v v1 : Value} {xs ys : List S42}
theorem own_cells (h : RowS w B ks w3 W v xs) (k : Nat) (hk : v.ownBlock = some k) : w3.heap.size ≤ k ∧ k < W.heap.size ∧ ∃ cells q, W.heap[k]? = some (.cells cells q (0, 0)) := by
  have hb := (Kd.R_bound h.r).1 k hk
  obtain ⟨h1, h2, h3, q, hq, cells, hc⟩ := hb
  exact ⟨h1, h3, cells, q, hc⟩
theorem kept (h : RowS w B ks w3 W v xs) (hwB : w.heap.size ≤ B) (hB3 : B < w3.heap.size) (hks : ∀ k ∈ ks, k < w3.heap.size) {row : Option Nat} (hg : W.grownBy U row) (hr : ∀ r, row = some r → w3.heap.size ≤ r ∧ ∃ o : Obj, W.heap[r]? = some o ∧ o.isCells = false) : RowS w B ks w3 U v xs := by
  have hS := h.hS
  have eB : U.heap[B]? = W.heap[B]? := hg.block B (by omega) (fun e => by have := (hr B e.symm).1; omega)
  refine ⟨(cell_of eB).trans h.c, (frozen_of eB).trans h.z, ?_, h.hB.grown hg h.hB.size (fun k e => by have := (hr k e).1; omega), Nat.le_trans h.hS hg.size, fun k hk => ?_⟩
  · refine Kd.R_mono (Kd.R_grown (Kd.R_bound h.r) hg (fun k hk e => ?_)) (fun k hk => hk.1)
    obtain ⟨_, _, _, q, _, cells, hc⟩ := hk
    obtain ⟨_, o, ho, hn⟩ := hr k e.symm
    rw [hc] at ho
    injection ho with ho
    subst ho
    exact absurd hn (by simp [Obj.isCells])
  · have := hks k hk
    exact (hg.block k (by omega) (fun e => by have := (hr k e.symm).1; omega)).trans (h.hK k hk)
theorem grew (h : RowS w B ks w3 W v xs) (hwB : w.heap.size ≤ B) (hB3 : B < w3.heap.size) (hks : ∀ k ∈ ks, k < w3.heap.size) (hBk : B ∉ ks) (hr : Kd.R k42 42 U w.heap.size (fun k => w3.heap.size ≤ k) v1 ys) (hb : Below w.heap.size w U) (hg : W.grownBy U v.ownBlock) :
    U.cell? ⟨B, 0, none⟩ = some v ∧ U.frozen? ⟨B, 0, none⟩ = false ∧ RowS w B ks w3 (U.setCell ⟨B, 0, none⟩ v1) v1 ys ∧ KeepsB ks W (U.setCell ⟨B, 0, none⟩ v1) ∧
      (∀ (k : Nat) (o : Obj), W.heap[k]? = some o → o.isCells = false → k ≠ B → (U.setCell ⟨B, 0, none⟩ v1).heap[k]? = some o) := by
  have hS := h.hS
  have ne : ∀ k, k < w3.heap.size → some k ≠ v.ownBlock := fun k hk e => by have := (h.own_cells k e.symm).1; omega
  have eB : U.heap[B]? = W.heap[B]? := hg.block B (by omega) (ne B hB3)
  have c1 : U.cell? ⟨B, 0, none⟩ = some v := (cell_of eB).trans h.c
  have z1 : U.frozen? ⟨B, 0, none⟩ = false := (frozen_of eB).trans h.z
  have hkb : KeepsB ks W (U.setCell ⟨B, 0, none⟩ v1) := fun k hk => by
    have hk3 := hks k hk
    have hne : k ≠ B := fun e => hBk (e ▸ hk)
    exact (Below.heap_setCell U ⟨B, 0, none⟩ v1 k hne).trans (hg.block k (by omega) (ne k hk3))
  refine ⟨c1, z1, ⟨World.cell?_setCell_same _ _ _ c1, by rw [World.frozen?_setCell]; exact z1, Kd.R_far hr (fun k hk => by show k ≠ B; omega) _, hb.setCell hwB _, ?_, h.hK.trans hkb⟩, hkb, fun k o hk ho hne => ?_⟩
  · have := hg.size; simp; omega
  · refine (Below.heap_setCell U ⟨B, 0, none⟩ v1 k hne).trans ((hg.block k (Array.getElem?_eq_some_iff.1 hk).1 (fun e => ?_)).trans hk)
    obtain ⟨_, _, cells, q, hc⟩ := h.own_cells k e.symm
    rw [hk] at hc
    injection hc with hc
    subst hc
    exact absurd ho (by simp [Obj.isCells])
end RowS
end Go.Proofs.Ytgifenlfklbdgaa.P
end
section
namespace Go.Proofs.Ytgifenlfklbdgaa.P
open Go.RowKit Go.Shelf Go.Proofs.YtgifenlfklbdgaaW.PrintWords Go.Proofs.YtgifenlfklbdgaaW.PrintLast Go.Proofs.YtgifenlfklbdgaaW.PrintMore
set_option linter.unusedSimpArgs false
set_option linter.unusedVariables false
attribute [local go_sem] Oper.semAt_some
def partP (x : S42) (st : Int) (i : Nat) : S42 := ⟨x.f0 + (i : Int), x.f0 + (i : Int), x.f2 + x.f3 * (i : Int), st⟩
def partsL (x : S42) (st : Int) (n : Nat) : List S42 := ((List.range n).map (partP x st)).filter (fun y => decide (0 < y.f2))
theorem partsL_succ (x : S42) (st : Int) (n : Nat) : partsL x st (n + 1) = partsL x st n ++ (if 0 < x.f2 + x.f3 * (n : Int) then [partP x st n] else []) := by
  unfold partsL
  rw [List.range_succ, List.map_append, List.filter_append]
  congr 1
  rw [List.map_singleton]
  have e : (partP x st n).f2 = x.f2 + x.f3 * (n : Int) := rfl
  by_cases h : 0 < x.f2 + x.f3 * (n : Int)
  · rw [if_pos h, List.filter_cons_of_pos (by rw [e]; exact decide_eq_true h), List.filter_nil]
  · rw [if_neg h, List.filter_cons_of_neg (by rw [e]; simpa using h), List.filter_nil]
end Go.Proofs.Ytgifenlfklbdgaa.P
end
section
namespace Go.Proofs.Ytgifenlfklbdgaa.P
open Go.RowKit Go.Shelf Go.Proofs.YtgifenlfklbdgaaW.PrintWords Go.Proofs.YtgifenlfklbdgaaW.PrintLast Go.Proofs.YtgifenlfklbdgaaW.PrintMore
set_option linter.unusedSimpArgs false
set_option linter.unusedVariables false
attribute [local go_sem] Oper.semAt_some
def Marks (B : Nat) (Ds : List Nat) (W : World) : Prop := Ds.Nodup ∧ ∀ D ∈ Ds, B ≤ D ∧ W.heap[D]? = some (.deferred (some []))
theorem Marks.kept {B : Nat} {Ds : List Nat} {W U : World} (h : Marks B Ds W) (hk : ∀ D ∈ Ds, W.heap[D]? = some (.deferred (some [])) → U.heap[D]? = some (.deferred (some []))) : Marks B Ds U :=
  ⟨h.1, fun D hD => ⟨(h.2 D hD).1, hk D hD (h.2 D hD).2⟩⟩
theorem Marks.lt {B : Nat} {Ds : List Nat} {W : World} (h : Marks B Ds W) : ∀ D ∈ Ds, D < W.heap.size := fun D hD => blk_lt (h.2 D hD).2
structure EndS (w : World) (b4 b5 : Nat) (v : Value) (e : Int) (xs : List S42) (U : World) : Prop where
  c4 : U.cell? ⟨b4, 0, none⟩ = some v
  c5 : U.cell? ⟨b5, 0, none⟩ = some (.int .i64 e)
  r : Kd.R k42 42 U w.heap.size (fun _ => True) v xs
  hB : Below w.heap.size w U
theorem EndS.moved {w A U : World} {b4 b5 : Nat} {v : Value} {e : Int} {xs : List S42} {row : Option Nat} (h : EndS w b4 b5 v e xs A) (hg : A.grownBy U row) (hr : ∀ r, row = some r → w.heap.size ≤ r ∧ ∃ o : Obj, A.heap[r]? = some o ∧ o.isCells = false) : EndS w b4 b5 v e xs U := by
  have hne : ∀ {b : Nat} {u : Value}, A.cell? ⟨b, 0, none⟩ = some u → U.heap[b]? = A.heap[b]? := fun {b u} hc => by
    have hlt := World.block_lt_of_cell? _ _ hc
    refine hg.block b hlt (fun e => ?_)
    obtain ⟨o, ho, hcs⟩ := cells_of_cell hc
    obtain ⟨_, o', ho', hn⟩ := hr b e.symm
    rw [ho] at ho'
    injection ho' with ho'
    rw [ho', hn] at hcs
    exact absurd hcs (by decide)
  refine ⟨(cell_of (hne h.c4)).trans h.c4, (cell_of (hne h.c5)).trans h.c5, ?_, h.hB.grown hg h.hB.size (fun k e => (hr k e).1)⟩
  refine Kd.R_mono (Kd.R_grown (Kd.R_bound h.r) hg (fun k hk e => ?_)) (fun _ _ => trivial)
  obtain ⟨_, _, _, q, _, cells, hc⟩ := hk
  obtain ⟨_, o', ho', hn⟩ := hr k e.symm
  rw [hc] at ho'
  injection ho' with ho'
  rw [← ho'] at hn
  exact absurd hn (by simp [Obj.isCells])
theorem EndS.put {w U : World} {b4 b5 D : Nat} {v : Value} {e : Int} {xs : List S42} (h : EndS w b4 b5 v e xs U) (hB : w.heap.size ≤ D) (hd : U.heap[D]? = some (.deferred (some []))) : EndS w b4 b5 v e xs (U.putObj D (.deferred none)) :=
  h.moved (grownBy_putObj' U D (.deferred none)) (fun r er => by cases er; exact ⟨hB, _, hd, rfl⟩)
theorem RowS.below {w w3 W U : World} {B : Nat} {ks : List Nat} {v : Value} {xs : List S42} (h : RowS w B ks w3 W v xs) (hks : ∀ k ∈ ks, k < w3.heap.size) (hb : Below W.heap.size W U) : RowS w B ks w3 U v xs := by
  have hB := World.block_lt_of_cell? _ _ h.c
  dsimp only at hB
  exact ⟨(hb.cell hB).trans h.c, (frozen_of (hb.block B hB)).trans h.z, Kd.R_below h.r hb, h.hB.trans (hb.mono h.hB.size), Nat.le_trans h.hS hb.size, fun k hk => (hb.block k (Nat.lt_of_lt_of_le (hks k hk) h.hS)).trans (h.hK k hk)⟩
theorem Marks.cons {B D : Nat} {Ds : List Nat} {W : World} (h : Marks B Ds W) {P : Nat} (hP : ∀ E ∈ Ds, E < P) (hD : P ≤ D) (hB : B ≤ D) (hd : W.heap[D]? = some (.deferred (some []))) : Marks B (D :: Ds) W :=
  ⟨List.nodup_cons.2 ⟨fun hm => by have := hP D hm; omega, h.1⟩, fun E hE => by
    rcases List.mem_cons.1 hE with rfl | hE
    · exact ⟨hB, hd⟩
    · exact h.2 E hE⟩
end Go.Proofs.Ytgifenlfklbdgaa.P
end
