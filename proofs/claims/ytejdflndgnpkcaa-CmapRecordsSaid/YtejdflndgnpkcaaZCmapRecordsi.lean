/- Words, contracts and plain facts of the proof. Each says its own condition. -/
import Derived.Test.YtejdflndgnpkcaaZCmapRecordsg
import Derived.Test.YtejdflndgnpkcaaZCmapRecordsh
import Derived.Shelf.Abstract
import Derived.Shelf.RegionOpen
import Derived.OwnWalkIn
import Derived.TacticsInMore
import Derived.LoopNIn
import Derived.LoopIn
import Derived.Lib.Hide
import Derived.Deep.RegionHeld3
import Derived.Test.YtejdflndgnpkcaaZCmapRecordsf
import Derived.Test.YtejdflndgnpkcaaZCmapRecordse
set_option linter.unusedVariables false
set_option linter.unusedSimpArgs false
section
namespace Go.Proofs.Ytejdflndgnpkcaa.P
open Go.RowKit Go.Proofs.YtejdflndgnpkcaaW.PrintWords Go.Proofs.YtejdflndgnpkcaaW.PrintLast Go.Proofs.YtejdflndgnpkcaaW.PrintMore
theorem lit_C (w : World) (l : List Int) (h : l.length ≤ maxLen) : Kd.C (Kd.int .i64) (w.alloc (.cells (l.map (Value.int .i64)).toArray 3)) (some ⟨w.heap.size, 0, none⟩) l.length l := by
 have ho := World.ownsRow_lit (base := 0) (e := 3) (size := 1) w (l.map (Value.int .i64)).toArray l.length (Nat.zero_le _) h (by simp)
 have hr : Kd.R (Kd.int .i64) 3 (w.alloc (.cells (l.map (Value.int .i64)).toArray 3)) 0 (fun _ => True) (.slice (some ⟨w.heap.size, 0, none⟩) l.length l.length) l := Kd.R_of_own (by simpa [encs] using ho) (fun _ _ => trivial)
 obtain ⟨A, c, e, _, hC⟩ := Kd.R_reads hr
 injection e with e1 e2 e3
 rw [e1]; exact hC
theorem row_block {W : World} {base : Nat} {ok : Nat → Prop} {v : Value} {xs : List Int} (h : Kd.R (Kd.int .i64) 3 W base ok v xs) (hn : 0 < xs.length) :
  ∃ ga cap, v = .slice (some ⟨ga, 0, none⟩) xs.length cap ∧ base ≤ ga ∧ ga < W.heap.size ∧ xs.length ≤ cap ∧ cap ≤ maxLen ∧ ∀ j, j < xs.length → W.cell? ⟨ga, j, none⟩ = some (.int .i64 (rd xs (j : Int))) := by
 have ho := Kd.own_of_R h
 rcases ho.2 with ⟨_, h0⟩ | ⟨g, cap, cur, rfl, hb, hg, hnc, hcm, hcs, ht⟩
 · omega
 ·
  refine ⟨g, cap, rfl, hb, blk_lt hg, hnc, hcm, fun j hj => ?_⟩
  have := ho.cellAt j (by omega)
  rw [this]
  unfold encs rd
  simp [List.getD_eq_getElem?_getD, List.getElem?_eq_getElem hj]
theorem cell_al {W : World} {a : Addr} {v : Value} (o : Obj) (h : W.cell? a = some v) : (W.alloc o).cell? a = some v := (((Below.refl _ W).alloc (Nat.le_refl _) o).cell (World.block_lt_of_cell? _ _ h)).trans h
theorem less_step {N n m : Nat} (h : 0 < m) (hN : n + m ≤ N) : N - (intOf (Value.int .i64 ((n + m : Nat) : Int))).toNat < N - (intOf (Value.int .i64 (n : Int))).toNat := by
 have e1 : (intOf (Value.int .i64 ((n + m : Nat) : Int))).toNat = n + m := Int.toNat_natCast _
 have e2 : (intOf (Value.int .i64 (n : Int))).toNat = n := Int.toNat_natCast _
 rw [e1, e2]; omega
end Go.Proofs.Ytejdflndgnpkcaa.P
end
section
namespace Go.Proofs.Ytejdflndgnpkcaa.P
open Go.RowKit Go.Shelf Go.Proofs.YtejdflndgnpkcaaW.PrintWords Go.Proofs.YtejdflndgnpkcaaW.PrintLast Go.Proofs.YtejdflndgnpkcaaW.PrintMore
attribute [local go_sem] Oper.semAt_some
def KeepsB (ks : List Nat) (W W' : World) : Prop := ∀ k ∈ ks, W'.heap[k]? = W.heap[k]?
theorem KeepsB.refl (ks : List Nat) (W : World) : KeepsB ks W W := fun _ _ => rfl
theorem KeepsB.trans {ks : List Nat} {A B C : World} (h : KeepsB ks A B) (k : KeepsB ks B C) : KeepsB ks A C := fun i hi => (k i hi).trans (h i hi)
theorem KeepsB.cell {ks : List Nat} {W W' : World} (h : KeepsB ks W W') {p : Addr} (hp : p.block ∈ ks) : W'.cell? p = W.cell? p := by unfold World.cell?; rw [h _ hp]
theorem keepsB_b {ks : List Nat} {w : World} (hk : ∀ k ∈ ks, k < w.heap.size) (W : World) (l : Nat) (o o' : Obj) (hl : w.heap.size ≤ l) (_ : W.heap[l]? = some o) (_ : o.isCells = false) (_ : o.isWalk = false) : KeepsB ks W (W.putObj l o') := fun k hi => by
 have := hk k hi
 exact World.putObj_heap_other (by omega)
theorem take_finRange {m k : Nat} (h : k < m) : (List.finRange m).take (k + 1) = (List.finRange m).take k ++ [⟨k, h⟩] := by
 rw [List.take_add_one]
 congr 1
 rw [List.getElem?_eq_getElem (by simpa using h)]
 simp
set_option maxRecDepth 100000 in
set_option maxHeartbeats 2000000 in
theorem chunk1_in (l n Bs Bn b c m len cap : Nat) (ks : List Nat) (hlen : len = c * m) (hc : 0 < c) (hm : 0 < m) (hreach : len ≤ 17592186044416) (hcap : len ≤ cap) (hcap2 : cap ≤ maxLen) (kBs : Bs ∈ ks) (kBn : Bn ∈ ks) (J Jx : List (Fin m) → World → Prop)
  (hY : ∀ pre x W, J pre W → pre.length < m → YieldAt Fence.wide (n - 1) Try.prog l #[.slice (some ⟨b, c * x.1, none⟩) c c] W fun e W' =>
   (e = .returned (.bool true) ∧ J (pre ++ [x]) W' ∧ KeepsB ks W W') ∨ (e = .returned (.bool false) ∧ Jx (pre ++ [x]) W'))
  (hJ : ∀ pre W, J pre W → J pre W.drew)
  (W : World) (hBs : W.cell? ⟨Bs, 0, none⟩ = some (.slice (some ⟨b, 0, none⟩) len cap)) (hBn : W.cell? ⟨Bn, 0, none⟩ = some (.int .i64 (c : Int))) (h0 : J [] W) :
  CallsIn Fence.wide n Try.prog 51 #[.func (.yield l) #[] #[], .pointer (some ⟨Bs, 0, none⟩), .pointer (some ⟨Bn, 0, none⟩)] W fun e W' => (∃ v, e = .returned v) ∧
   ((∃ ys, ys = List.finRange m ∧ J ys W') ∨ (∃ pre, True ∧ Jx pre W')) := by
 have HLEN := Lib.hid hlen
 clear hlen
 refine callsIn_of_wp Try.func51 rfl trivial ?_ rfl
 simp only [Try.ntmps51, List.size_toArray, List.length_cons, List.length_nil, Nat.reduceAdd, Nat.reduceSub, Array.replicate_succ, Array.replicate_zero, List.push_toArray, List.append_toArray, List.nil_append, List.cons_append]
 gi_wp2
 gi_loopw [4] (fun i wr => ∃ k p : Nat, k ≤ m ∧ i = .int .i64 (p : Int) ∧ Aside0 (p = c * k) ∧ J ((List.finRange m).take k) wr ∧ KeepsB ks W wr)
  (fun i _ => len - (intOf i).toNat)
 case atStart => exact ⟨0, 0, Nat.zero_le _, rfl, ⟨by simp⟩, by simpa using h0, KeepsB.refl _ _⟩
 case round =>
  obtain ⟨k, p, hk, rfl, HP, hJs, hnx⟩ := hrel
  have c1 := (hnx.cell (p := ⟨Bs, 0, none⟩) kBs).trans hBs
  have c2 := (hnx.cell (p := ⟨Bn, 0, none⟩) kBn).trans hBn
  by_cases hlt : k < m
  ·
   have hpl : p + c ≤ len := by
    rw [HP.out, HLEN.out, ← Nat.mul_succ]; exact Nat.mul_le_mul_left _ hlt
   have d1 : decide ((p : Int) < (len : Int)) = true := decide_eq_true (by omega)
   gi_wp2_with fail
   refine wpIn_wide.2 ?_
   have hpq : (p : Int) ≤ (len : Int) := by omega
   have hmin : min (c : Int) ((len : Int) - (p : Int)) = (c : Int) := by omega
   have hp0 : (0 : Int) ≤ (p : Int) := by omega
   have hq1 : (len - p < c) = False := eq_false (by omega)
   have c12 : wr.drew.cell? ⟨Bs, 0, none⟩ = some (.slice (some ⟨b, 0, none⟩) len cap) ∧ wr.drew.cell? ⟨Bn, 0, none⟩ = some (.int .i64 (c : Int)) := ⟨c1, c2⟩
   go_region_held3 (fun u => u.cell? ⟨Bs, 0, none⟩ = some (.slice (some ⟨b, 0, none⟩) len cap) ∧ u.cell? ⟨Bn, 0, none⟩ = some (.int .i64 (c : Int))) (exact c12) (fail)
   have hwp : wrap64 ((p : Int) + (c : Int)) = ((p + c : Nat) : Int) := by unfold wrap64; omega
   obtain ⟨fn, tmps, assign, body, hy, hR⟩ := hY _ ⟨k, hlt⟩ wr.drew (hJ _ _ hJs) (by simp; omega)
   dsimp only at hy
   rw [← HP.out] at hy
   rw [← take_finRange hlt] at hR
   gi_wp2_with fail
   refine ⟨fun e => by simp [Fence.wide] at e, hR.mono ?_⟩
   have c3 : KeepsB ks W wr.drew := fun i hi => hnx i hi
   rintro e W3 (⟨rfl, hJ3, hk3⟩ | ⟨rfl, hJx3⟩)
   ·
    have c4 := (hk3.cell (p := ⟨Bs, 0, none⟩) kBs).trans c12.1
    have c5 := (hk3.cell (p := ⟨Bn, 0, none⟩) kBn).trans c12.2
    gi_wp2
    go_roundw
    case rel => exact ⟨k + 1, p + c, by omega, rfl, ⟨by rw [HP.out, Nat.mul_succ]⟩, hJ3, c3.trans hk3⟩
    case measure => exact less_step hc hpl
   ·
    gi_wp2
    refine bodyPost_ret (results_none rfl _ _ _) rfl ?_
    exact ⟨⟨_, rfl⟩, .inr ⟨_, trivial, hJx3⟩⟩
  ·
   obtain rfl : k = m := by omega
   have hpe : p = len := by rw [HP.out, HLEN.out]
   have d1 : decide ((p : Int) < (len : Int)) = false := decide_eq_false (by omega)
   have hJe : J (List.finRange k) wr := by rwa [List.take_of_length_le (by simp)] at hJs
   gi_wp2
   go_end0
   exact ⟨⟨_, rfl⟩, .inl ⟨_, rfl, hJe⟩⟩
theorem chunk_stops (n Bs Bn b c m len cap : Nat) (ks : List Nat) (w : World) (hlen : len = c * m) (hc : 0 < c) (hm : 0 < m) (hreach : len ≤ 17592186044416) (hcap : len ≤ cap) (hcap2 : cap ≤ maxLen) (kBs : Bs ∈ ks) (kBn : Bn ∈ ks) (hlt1 : Bs < w.heap.size) (hlt2 : Bn < w.heap.size)
  (hBs : w.cell? ⟨Bs, 0, none⟩ = some (.slice (some ⟨b, 0, none⟩) len cap)) (hBn : w.cell? ⟨Bn, 0, none⟩ = some (.int .i64 (c : Int))) :
  SeqStopsK Fence.wide n Try.prog 51 #[.pointer (some ⟨Bs, 0, none⟩), .pointer (some ⟨Bn, 0, none⟩)] (fun x : Fin m => #[Value.slice (some ⟨b, c * x.1, none⟩) c c]) (KeepsB ks) (fun ys => ys = List.finRange m) (fun _ => True) m w := fun l J Jx W hW hJ _ hY h0 =>
 chunk1_in l n Bs Bn b c m len cap ks hlen hc hm hreach hcap hcap2 kBs kBn J Jx hY (fun pre W h => hJ pre W W.drew none h ⟨rfl, rfl, rfl, Nat.le_refl _, fun _ _ _ => rfl⟩ (fun r e => by cases e)) W ((hW.cell (p := ⟨Bs, 0, none⟩) hlt1).trans hBs) ((hW.cell (p := ⟨Bn, 0, none⟩) hlt2).trans hBn) h0
theorem chunk_calls (A : Option Addr) (len cap : Nat) (c : Nat) (hc : 0 < c) (hc2 : c ≤ 17592186044416) (w : World) :
  Calls Try.prog 24 #[.slice A len cap, .int .i64 (c : Int)] w fun e w' => e = .returned (.func (.func 51) #[] #[.pointer (some ⟨w.heap.size, 0, none⟩), .pointer (some ⟨w.heap.size + 1, 0, none⟩)]) ∧ w' = (w.alloc (.cells #[.slice A len cap] 48)).alloc (.cells #[.int .i64 (c : Int)] 3) := by
 have d1 : decide ((c : Int) < 1) = false := decide_eq_false (by omega)
 go_enter Try.func24, Try.ntmps24
 go_wp2
 go_ret
 exact ⟨rfl, rfl⟩
end Go.Proofs.Ytejdflndgnpkcaa.P
end
section
namespace Go.Proofs.Ytejdflndgnpkcaa.P
open Go.RowKit Go.Proofs.YtejdflndgnpkcaaW.PrintWords Go.Proofs.YtejdflndgnpkcaaW.PrintLast Go.Proofs.YtejdflndgnpkcaaW.PrintMore
attribute [local go_sem] max2_int min2_int max_two min_two max_three min_three max_four min_four
def chart_span_glyph.f (a0_0 : Int) (a0_1 : Int) (a0_2 : Int) (a0_3 : Int) (a1 : Int) : Option (Int) := some (wrap64 (a0_2 + (wrap64 (a0_3 * (wrap64 (a1 - a0_0))))))
set_option maxHeartbeats 8000000 in
set_option maxRecDepth 100000 in
theorem chart_span_glyph.calls (a0_0 : Int) (a0_1 : Int) (a0_2 : Int) (a0_3 : Int) (a1 : Int) (r : Int) (w : World) (h : chart_span_glyph.f a0_0 a0_1 a0_2 a0_3 a1 = some r) :
  Calls Try.prog 54 #[.agg #[.int .i64 a0_0, .int .i64 a0_1, .int .i64 a0_2, .int .i64 a0_3], .int .i64 a1] w fun e w' => e = .returned (.int .i64 r) ∧ Below w.heap.size w w' := by
 have hu70 := Try.underlying70
 have HB := Aside0.mk (Below.refl w.heap.size w)
 have H : (some (wrap64 (a0_2 + (wrap64 (a0_3 * (wrap64 (a1 - a0_0))))))) = some r := h
 clear h
 obtain rfl := Option.some.inj H
 go_enter Try.func54, Try.ntmps54
 go_wp2_with (first | ((with_reducible refine gate_dst (N := 2) rfl ?_); refine box_event ?hg (N := 2) ?hd (cs := #[.int .i64 a0_0, .int .i64 a0_1, .int .i64 a0_2, .int .i64 a0_3]) (t := 70) ?hr ?_; (case hd => rfl); (case hg => rfl); (case hr => exact hA); intro gb172 hg w3 hbox hb; have n0_ := Aside0.mk (below_step bA hb); have n1_ := Aside0.mk (hbox); have n2_ := Aside0.mk ((by rw [hg]; exact (below_size bA) : w.heap.size ≤ gb172)); have n3_ := Aside0.mk ((by rw [hg]; exact (below_size bA) : w.heap.size ≤ gb172)); clear HB; have HB := n0_; have BK172 := n1_; have GW172 := n2_; have GE172 := n3_; clear n0_ n1_ n2_ n3_; clear hb hbox hg; have hcz4_0 : w3.cell? ⟨gb172, 0, none⟩ = some (.int .i64 a0_0) := (blk_cell BK172.out 0).trans rfl; have hcz4_1 : w3.cell? ⟨gb172, 1, none⟩ = some (.int .i64 a0_1) := (blk_cell BK172.out 1).trans rfl; have hcz4_2 : w3.cell? ⟨gb172, 2, none⟩ = some (.int .i64 a0_2) := (blk_cell BK172.out 2).trans rfl; have hcz4_3 : w3.cell? ⟨gb172, 3, none⟩ = some (.int .i64 a0_3) := (blk_cell BK172.out 3).trans rfl; have hfz4_0 := blk_frozen BK172.out 0; have hfz4_1 := blk_frozen BK172.out 1; have hfz4_2 := blk_frozen BK172.out 2; have hfz4_3 := blk_frozen BK172.out 3))
 go_ret
 exact ⟨eA, by repeat (first | (with_reducible first | exact HB.out | apply below_alloc | apply pw_below_drewN | apply below_drew1 | refine below_set ?_ GE172.out) | exact HB.out)⟩
end Go.Proofs.Ytejdflndgnpkcaa.P
end
