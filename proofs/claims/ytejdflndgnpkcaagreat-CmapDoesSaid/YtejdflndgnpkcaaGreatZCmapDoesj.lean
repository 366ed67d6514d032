/- Words, contracts and plain facts of the proof. Each says its own condition. -/
import Derived.RangeFuncNested
import Derived.RangeFuncBound
import Derived.RangeFuncCalls
import Derived.RangeFuncLeaves
import Derived.OrdersIn
import Derived.Test.YtejdflndgnpkcaaGreatZCmapDoese
import Derived.Shelf.Abstract
import Derived.Shelf.RegionOpen
import Derived.OwnWalkIn
import Derived.TacticsInMore
import Derived.LoopNIn
import Derived.LoopIn
import Derived.Lib.Hide
import Derived.Deep.RegionHeld3
import Derived.Test.YtejdflndgnpkcaaGreatZCmapDoesi
set_option linter.unusedVariables false
set_option maxRecDepth 100000
set_option linter.unusedSimpArgs false
set_option maxHeartbeats 16000000
section
namespace Go.Proofs.YtejdflndgnpkcaaGreat.P
open Go.RowKit PW PL PM
def noDefer : Op → Bool
 | .defer _ => false
 | _ => true
section
variable {P : Program} {l n : Nat} {ops : Array Oper} {Q : Exit → Act → World → Prop} {md : Region.Mode}
theorem rows_in {row : String} {args : Array Value} {w : World} {R : Value → World → Prop} (h : Rows P row args w R) : RowsIn (Fence.wide.inRound l) n P row args w R := fun c cs _ => by
 obtain ⟨v, w', r, s⟩ := h c cs;exact ⟨v, w', r, stepsIn_wide.2 s⟩
theorem oper_in {o : Oper} {a : Act} {w : World} {K : Act → World → Prop} (hd : noDefer o.op = true) (h : o.wp P a w K Q) : o.wpIn (Fence.wide.inRound l) n P a w K Q := by
 unfold Oper.wp at h;refine ⟨fun _ _ => trivial, ?_⟩;rw [Fence.inRound_round, Oper.semAt_eq _ _ _ (by intro c e; rw [e] at hd; exact absurd hd (by simp [noDefer]))];generalize (execOp a.eval o).run P w = r at *
 cases r with
 | ok x w' =>
  cases x <;> simp only [Oper.upon, Oper.uponIn] at h ⊢ <;>
   first
    | exact h
    | exact ⟨fun e => by simp [Fence.wide] at e, CallsIn.inRound l (callsIn_wide.2 h)⟩
    | exact ⟨fun e => by simp [Fence.wide] at e, rows_in h⟩
 | halt x w' => cases x <;> simp only [Oper.upon, Oper.uponIn] at h ⊢ <;> exact h
theorem op_in {i : Nat} {K : Act → World → Prop} {a : Act} {w : World} (hd : ops.all (fun o => noDefer o.op) = true) (hQ : ¬ LetsOut Q) (h : wpOp P ops Q i K a w) : wpOpIn (Fence.wide.inRound l) n P ops Q i K a w := by
 unfold wpOp at h;unfold wpOpIn;cases ho : ops[i]? with
 | none => simpa [ho] using h
 | some o =>
  simp only [ho] at h ⊢
  have hdo : noDefer o.op = true := by
   obtain ⟨hi, he⟩ := Array.getElem?_eq_some_iff.1 ho;rw [Array.all_eq_true] at hd;rw [← he]; exact hd i hi
  by_cases hw : Region.wanted o (yielded ops a.tmps) = true
  ·
   rw [if_pos hw] at h ⊢;rcases h with h | ⟨_, h⟩
   · exact oper_in hdo h
   exact absurd h hQ
  rw [if_neg hw] at h ⊢;exact ⟨fun _ _ => trivial, h⟩
theorem any_in (hd : ops.all (fun o => noDefer o.op) = true) (hQ : ¬ LetsOut Q) : ∀ (fuel : Nat) (listed : Array Bool) (a : Act) (w : World), wpAny P md ops Q fuel listed a w → wpAnyIn (Fence.wide.inRound l) n P md ops Q fuel listed a w
 | 0, _, _, _, h => h
 | fuel + 1, listed, a, w, h => ⟨h.1, fun i hi => wpOpIn_mono (fun a w h => any_in hd hQ fuel _ a w h) (op_in hd hQ (h.2 i hi))⟩
theorem start_in {S : World → Prop} {ds : List Nat} {id m : Nat} {a : Act} {w : World} (l' : Array Bool) (hm : P.follows .mixedOrders = true) (hn : ops.size = m) (hl : Array.replicate m false = l') (hd : ops.all (fun o => noDefer o.op) = true) (hQ : ¬ LetsOut Q) (hS : S w.drew)
  (h : S w.drew → wpAnyLast P .any ops Q S ds m l' a w.drew) : (Code.region id ops true).wpIn (Fence.wide.inRound l) n P Q a w := by
 subst hn;subst hl;exact wpIn_region_any hm (any_in hd hQ _ _ _ _ (wpAny_of_last _ _ _ _ (h hS)))
end
end Go.Proofs.YtejdflndgnpkcaaGreat.P
end
section
namespace Go.Proofs.YtejdflndgnpkcaaGreat.P
open Go.RowKit Go.Shelf PW PL PM
attribute [local go_sem] Oper.semAt_some
def KeepsB (ks : List Nat) (W W' : World) : Prop := ∀ k ∈ ks, W'.heap[k]? = W.heap[k]?
theorem KeepsB.refl (ks : List Nat) (W : World) : KeepsB ks W W := fun _ _ => rfl
theorem KeepsB.trans {ks : List Nat} {A B C : World} (h : KeepsB ks A B) (k : KeepsB ks B C) : KeepsB ks A C := fun i hi => (k i hi).trans (h i hi)
theorem KeepsB.cell {ks : List Nat} {W W' : World} (h : KeepsB ks W W') {p : Addr} (hp : p.block ∈ ks) : W'.cell? p = W.cell? p := by unfold World.cell?; rw [h _ hp]
theorem keepsB_b {ks : List Nat} {w : World} (hk : ∀ k ∈ ks, k < w.heap.size) (W : World) (l : Nat) (o o' : Obj) (hl : w.heap.size ≤ l) (_ : W.heap[l]? = some o) (_ : o.isCells = false) (_ : o.isWalk = false) : KeepsB ks W (W.putObj l o') := fun k hi => by
 have := hk k hi;exact World.putObj_heap_other (by omega)
theorem take_finRange {m k : Nat} (h : k < m) : (List.finRange m).take (k + 1) = (List.finRange m).take k ++ [⟨k, h⟩] := by
 rw [List.take_add_one];congr 1
 rw [List.getElem?_eq_getElem (by simpa using h)];simp
theorem chunk1_in (l n Bs Bn b c m len cap : Nat) (ks : List Nat) (hlen : len = c * m) (hc : 0 < c) (hm : 0 < m) (hreach : len ≤ 17592186044416) (hcap : len ≤ cap) (hcap2 : cap ≤ maxLen) (kBs : Bs ∈ ks) (kBn : Bn ∈ ks) (J Jx : List (Fin m) → World → Prop)
  (hY : ∀ pre x W, J pre W → pre.length < m → YieldAt Fence.wide (n - 1) Tryz.prog l #[.slice (some ⟨b, c * x.1, none⟩) c c] W fun e W' =>
   (e = .returned (.bool true) ∧ J (pre ++ [x]) W' ∧ KeepsB ks W W') ∨ (e = .returned (.bool false) ∧ Jx (pre ++ [x]) W'))
  (hJ : ∀ pre W, J pre W → J pre W.drew)
  (W : World) (hBs : W.cell? ⟨Bs, 0, none⟩ = some (.slice (some ⟨b, 0, none⟩) len cap)) (hBn : W.cell? ⟨Bn, 0, none⟩ = some (.int .i64 (c : Int))) (h0 : J [] W) :
  CallsIn Fence.wide n Tryz.prog 44 #[.func (.yield l) #[] #[], .pointer (some ⟨Bs, 0, none⟩), .pointer (some ⟨Bn, 0, none⟩)] W fun e W' => (∃ v, e = .returned v) ∧
   ((∃ ys, ys = List.finRange m ∧ J ys W') ∨ (∃ pre, True ∧ Jx pre W')) := by
 have HLEN := hI hlen;clear hlen;refine callsIn_of_wp Tryz.func44 rfl trivial ?_ rfl;simp only [Tryz.ntmps44, List.size_toArray, List.length_cons, List.length_nil, Nat.reduceAdd, Nat.reduceSub, Array.replicate_succ, Array.replicate_zero, List.push_toArray, List.append_toArray, List.nil_append, List.cons_append];gi_wp2
 gi_loopw [4] (fun i wr => ∃ k p : Nat, k ≤ m ∧ i = .int .i64 (p : Int) ∧ Aside0 (p = c * k) ∧ J ((List.finRange m).take k) wr ∧ KeepsB ks W wr)
  (fun i _ => len - (intOf i).toNat)
 case atStart => exact ⟨0, 0, Nat.zero_le _, rfl, ⟨by simp⟩, by simpa using h0, KeepsB.refl _ _⟩
 case round =>
  obtain ⟨k, p, hk, rfl, HP, hJs, hnx⟩ := hrel;have c1 := (hnx.cell (p := ⟨Bs, 0, none⟩) kBs).trans hBs;have c2 := (hnx.cell (p := ⟨Bn, 0, none⟩) kBn).trans hBn;by_cases hlt : k < m
  ·
   have hpl : p + c ≤ len := by
    rw [HP.out, HLEN.out, ← Nat.mul_succ]; exact Nat.mul_le_mul_left _ hlt
   have d1 : decide ((p : Int) < (len : Int)) = true := decide_eq_true (by omega);gi_wp2_with fail
   refine wpIn_wide.2 ?_;have hpq : (p : Int) ≤ (len : Int) := by omega
   have hmin : min (c : Int) ((len : Int) - (p : Int)) = (c : Int) := by omega
   have hp0 : (0 : Int) ≤ (p : Int) := by omega
   have hq1 : (len - p < c) = False := eq_false (by omega);have c12 : wr.drew.cell? ⟨Bs, 0, none⟩ = some (.slice (some ⟨b, 0, none⟩) len cap) ∧ wr.drew.cell? ⟨Bn, 0, none⟩ = some (.int .i64 (c : Int)) := ⟨c1, c2⟩;go_region_held3 (fun u => u.cell? ⟨Bs, 0, none⟩ = some (.slice (some ⟨b, 0, none⟩) len cap) ∧ u.cell? ⟨Bn, 0, none⟩ = some (.int .i64 (c : Int))) (exact c12) (fail)
   have hwp : wrap64 ((p : Int) + (c : Int)) = ((p + c : Nat) : Int) := by unfold wrap64; omega
   obtain ⟨fn, tmps, assign, body, hy, hR⟩ := hY _ ⟨k, hlt⟩ wr.drew (hJ _ _ hJs) (by simp; omega);dsimp only at hy
   rw [← HP.out] at hy;rw [← take_finRange hlt] at hR;gi_wp2_with fail
   refine ⟨fun e => by simp [Fence.wide] at e, hR.mono ?_⟩;have c3 : KeepsB ks W wr.drew := fun i hi => hnx i hi
   rintro e W3 (⟨rfl, hJ3, hk3⟩ | ⟨rfl, hJx3⟩)
   ·
    have c4 := (hk3.cell (p := ⟨Bs, 0, none⟩) kBs).trans c12.1;have c5 := (hk3.cell (p := ⟨Bn, 0, none⟩) kBn).trans c12.2;gi_wp2
    go_roundw
    case rel => exact ⟨k + 1, p + c, by omega, rfl, ⟨by rw [HP.out, Nat.mul_succ]⟩, hJ3, c3.trans hk3⟩
    case measure => exact less_step hc hpl
   gi_wp2
   refine bodyPost_ret (results_none rfl _ _ _) rfl ?_;exact ⟨⟨_, rfl⟩, .inr ⟨_, trivial, hJx3⟩⟩
  obtain rfl : k = m := by omega
  have hpe : p = len := by rw [HP.out, HLEN.out]
  have d1 : decide ((p : Int) < (len : Int)) = false := decide_eq_false (by omega);have hJe : J (List.finRange k) wr := by rwa [List.take_of_length_le (by simp)] at hJs
  gi_wp2
  go_end0
  exact ⟨⟨_, rfl⟩, .inl ⟨_, rfl, hJe⟩⟩
theorem chunk_stops (n Bs Bn b c m len cap : Nat) (ks : List Nat) (w : World) (hlen : len = c * m) (hc : 0 < c) (hm : 0 < m) (hreach : len ≤ 17592186044416) (hcap : len ≤ cap) (hcap2 : cap ≤ maxLen) (kBs : Bs ∈ ks) (kBn : Bn ∈ ks) (hlt1 : Bs < w.heap.size) (hlt2 : Bn < w.heap.size)
  (hBs : w.cell? ⟨Bs, 0, none⟩ = some (.slice (some ⟨b, 0, none⟩) len cap)) (hBn : w.cell? ⟨Bn, 0, none⟩ = some (.int .i64 (c : Int))) :
  SeqStopsK Fence.wide n Tryz.prog 44 #[.pointer (some ⟨Bs, 0, none⟩), .pointer (some ⟨Bn, 0, none⟩)] (fun x : Fin m => #[Value.slice (some ⟨b, c * x.1, none⟩) c c]) (KeepsB ks) (fun ys => ys = List.finRange m) (fun _ => True) m w := fun l J Jx W hW hJ _ hY h0 =>
 chunk1_in l n Bs Bn b c m len cap ks hlen hc hm hreach hcap hcap2 kBs kBn J Jx hY (fun pre W h => hJ pre W W.drew none h ⟨rfl, rfl, rfl, Nat.le_refl _, fun _ _ _ => rfl⟩ (fun r e => by cases e)) W ((hW.cell (p := ⟨Bs, 0, none⟩) hlt1).trans hBs) ((hW.cell (p := ⟨Bn, 0, none⟩) hlt2).trans hBn) h0
theorem chunk_calls (A : Option Addr) (len cap : Nat) (c : Nat) (hc : 0 < c) (hc2 : c ≤ 17592186044416) (w : World) :
  Calls Tryz.prog 22 #[.slice A len cap, .int .i64 (c : Int)] w fun e w' => e = .returned (.func (.func 44) #[] #[.pointer (some ⟨w.heap.size, 0, none⟩), .pointer (some ⟨w.heap.size + 1, 0, none⟩)]) ∧ w' = (w.alloc (.cells #[.slice A len cap] 35)).alloc (.cells #[.int .i64 (c : Int)] 3) := by
 have d1 : decide ((c : Int) < 1) = false := decide_eq_false (by omega);go_enter Tryz.func22, Tryz.ntmps22;go_wp2;go_ret;exact ⟨rfl, rfl⟩
end Go.Proofs.YtejdflndgnpkcaaGreat.P
end
