/- A part of the proof of the law SegmentDoes: the words, contracts and plain facts that it needs, no more. Each says its own condition. -/
import Derived.Test.YtgifenlfklbdgaaZSegmentDoesj
import Derived.Test.YtgifenlfklbdgaaZSegmentDoesl
namespace Go.Proofs.Ytgifenlfklbdgaa.P
open Go.RowKit Go.Proofs.YtgifenlfklbdgaaW.PrintWords Go.Proofs.YtgifenlfklbdgaaW.PrintLast Go.Proofs.YtgifenlfklbdgaaW.PrintMore
set_option linter.unusedSimpArgs false
set_option linter.unusedVariables false
theorem lit_C (w : World) (l : List Int) (h : l.length ≤ maxLen) : Kd.C (Kd.int .i64) (w.alloc (.cells (l.map (Value.int .i64)).toArray 3)) (some ⟨w.heap.size, 0, none⟩) l.length l := by
  have ho := World.ownsRow_lit (base := 0) (e := 3) (size := 1) w (l.map (Value.int .i64)).toArray l.length (Nat.zero_le _) h (by simp)
  have hr : Kd.R (Kd.int .i64) 3 (w.alloc (.cells (l.map (Value.int .i64)).toArray 3)) 0 (fun _ => True) (.slice (some ⟨w.heap.size, 0, none⟩) l.length l.length) l := Kd.R_of_own (by simpa [encs] using ho) (fun _ _ => trivial)
  obtain ⟨A, c, e, _, hC⟩ := Kd.R_reads hr
  injection e with e1 e2 e3
  rw [e1]; exact hC
theorem row_block {W : World} {base : Nat} {ok : Nat → Prop} {v : Value} {xs : List Int} (h : Kd.R (Kd.int .i64) 3 W base ok v xs) (hn : 0 < xs.length) :
    ∃ ga cap, v = .slice (some ⟨ga, 0, none⟩) xs.length cap ∧ base ≤ ga ∧ ga < W.heap.size ∧ xs.length ≤ cap ∧ cap ≤ maxLen ∧ ∀ j, j < xs.length → W.cell? ⟨ga, j, none⟩ = some (.int .i64 (rd xs (j : Int))) := by
  have ho := Kd.own_of_R h
  rcases ho.2 with ⟨_, h0⟩ | ⟨g, cap, cur, rfl, hb, hg, hnc, hcm, hcs, ht⟩
  · omega
  · refine ⟨g, cap, rfl, hb, blk_lt hg, hnc, hcm, fun j hj => ?_⟩
    have := ho.cellAt j (by omega)
    rw [this]
    unfold encs rd
    simp [List.getD_eq_getElem?_getD, List.getElem?_eq_getElem hj]
theorem cell_al {W : World} {a : Addr} {v : Value} (o : Obj) (h : W.cell? a = some v) : (W.alloc o).cell? a = some v := (((Below.refl _ W).alloc (Nat.le_refl _) o).cell (World.block_lt_of_cell? _ _ h)).trans h
theorem less_step {N n m : Nat} (h : 0 < m) (hN : n + m ≤ N) : N - (intOf (Value.int .i64 ((n + m : Nat) : Int))).toNat < N - (intOf (Value.int .i64 (n : Int))).toNat := by
  have e1 : (intOf (Value.int .i64 ((n + m : Nat) : Int))).toNat = n + m := Int.toNat_natCast _
  have e2 : (intOf (Value.int .i64 (n : Int))).toNat = n := Int.toNat_natCast _
  rw [e1, e2]; omega
end Go.Proofs.Ytgifenlfklbdgaa.P
