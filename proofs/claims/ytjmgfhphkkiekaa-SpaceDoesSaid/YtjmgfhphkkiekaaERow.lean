/- Words for a row of whole numbers of a call's own that is written in place: what it holds, a cell of it, a store into it. -/
import Derived.Test.YtjmgfhphkkiekaaP0
import Derived.Lib.Hide
namespace Go.Proofs.Ytjmgfhphkkiekaa.P
open Go.RowKit Go.Proofs.YtjmgfhphkkiekaaW.PrintWords Go.Proofs.YtjmgfhphkkiekaaW.PrintLast Go.Proofs.YtjmgfhphkkiekaaW.PrintMore

/-- The row holds 'out' in the world W of a call that began in w; all else is as it was. -/
structure RowAt (w W : World) (g n cap : Nat) (out : List Int) : Prop where
  R : Kd.R (Kd.int .i64) 3 W w.heap.size (fun _ => True) (.slice (some ⟨g, 0, none⟩) n cap) out
  B : Below w.heap.size w W
namespace RowAt
variable {w W W' : World} {g n cap : Nat} {out : List Int}
theorem next (h : RowAt w W g n cap out) (hb : Below W.heap.size W W') : RowAt w W' g n cap out := ⟨Kd.R_below h.R hb, below_then h.B h.B.size hb⟩
theorem drawn (h : RowAt w W g n cap out) (hb : Drawn0 W W') : RowAt w W' g n cap out := h.next hb.below
theorem len (h : RowAt w W g n cap out) : n = out.length := (Kd.R_reads' h.R).1
theorem cell (h : RowAt w W g n cap out) {k : Nat} (hk : k < n) : W.cell? ⟨g, k, none⟩ = some (.int .i64 (out.getD k 0)) := by
  obtain ⟨hn, hnc, hC⟩ := Kd.R_reads' h.R
  obtain ⟨ad, hA, hcell⟩ := Kd.at_int hC (k : Int) (by omega) (by omega)
  cases hA
  rw [Int.toNat_natCast, add_plain] at hcell
  rw [hcell]
  unfold rd; rw [Int.toNat_natCast]
theorem cell_set {k : Nat} {y : Int} (h : RowAt w W g n cap (out.set k y)) (hk : k < n) : W.cell? ⟨g, k, none⟩ = some (.int .i64 y) := by
  rw [h.cell hk]
  have hl := h.len
  rw [List.length_set] at hl
  rw [List.getD_eq_getElem?_getD, List.getElem?_set_self (by omega)]
  rfl
theorem store {ops : Array Oper} {rest : List Oper} {o : Oper} {a : Act} {Q : Exit → Act → World → Prop} (p x : Operand) (ho : o.op = .store 3 p x) (hN : o.dst = none) (hgd : o.guard = none)
    (k : Nat) (y : Int) (haddr : a.eval p = .pointer (some ⟨g, k, none⟩)) (hx : a.eval x = .int .i64 y) (h : RowAt w W g n cap out) (hk : k < n)
    (next : ∀ w1, RowAt w w1 g n cap (out.set k y) → wpList Try.prog ops Q rest a w1) : wpList Try.prog ops Q (o :: rest) a W := by
  refine Kd.R_store (P := Try.prog) (Kd.int .i64) (w0 := w) w.heap.size hN hgd 3 p x ho 3 (g := g) (n := n) (cap := cap) (o' := k) (k : Int) 0 out y (.int .i64 y) [.int .i64 y] [.int .i64 (out.getD k 0)] (fun _ => True) (fun _ => False) haddr ?_ hx rfl (by kernel_rfl) (by simp [Value.oneCell']) h.R (by omega) (by omega) rfl ?_ (Nat.le_refl _) rfl (fun _ h => h.elim) h.B ?_
  · rw [Int.toNat_natCast]; exact (Nat.mul_one _).symm
  · intro j u hj
    cases j with
    | zero =>
      cases hj
      rw [Int.toNat_natCast, Nat.add_zero, show k * (Kd.int IntKind.i64).sz = k from Nat.mul_one _]
      exact h.cell hk
    | succ j => simp at hj
  · intro w1 hr hb _
    rw [Int.toNat_natCast] at hr
    exact next w1 ⟨hr, hb⟩
end RowAt
theorem beq_no {a b : Int} (h : a ≠ b) : (a == b) = false := beq_eq_false_iff_ne.2 h
theorem beq_yes {a b : Int} (h : a = b) : (a == b) = true := by rw [h]; exact beq_self_eq_true b
end Go.Proofs.Ytjmgfhphkkiekaa.P
