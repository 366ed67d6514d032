/- Words, contracts and plain facts of the proof. Each says its own condition. -/
import Derived.Test.YtejdflndgnpkcaaGreatZCmapDoesj
import Derived.Test.YtejdflndgnpkcaaGreatZCmapDoesq
import Derived.Test.YtejdflndgnpkcaaGreatZCmapDoese
import Derived.Test.YtejdflndgnpkcaaGreatZCmapDoeso
set_option linter.unusedVariables false
set_option maxRecDepth 100000
set_option linter.unusedSimpArgs false
set_option maxHeartbeats 16000000
section
namespace Go.Proofs.YtejdflndgnpkcaaGreat.P
open Go.RowKit Go.Shelf PW PL PM
attribute [local go_sem] Oper.semAt_some
def sumN (l : List Int) : Nat := (l.map Int.natAbs).sum
theorem areSizes_rep (l : List Int) (h : areSizes l = true) : ∀ k, areSizes (repN l k) = true
 | 0 => rfl
 | k + 1 => by
  have := areSizes_rep l h k;unfold areSizes at *;rw [repN, List.all_append, h, this]; rfl
theorem sumN_rep (l : List Int) : ∀ k, sumN (repN l k) = sumN l * k
 | 0 => by simp [repN, sumN]
 | k + 1 => by
  have h1 : sumN (repN l (k + 1)) = sumN l + sumN (repN l k) := by simp [repN, sumN]
  rw [h1, sumN_rep l k, Nat.mul_succ, Nat.add_comm]
def w4 (s : ByteArray) (p : Nat) : Int := takeN (s.extract p s.size) 4
theorem w4_bd (s : ByteArray) (p : Nat) : 0 ≤ w4 s p ∧ w4 s p ≤ 4294967295 := by
 unfold w4 takeN;rw [if_neg (by rintro ⟨h, _⟩; exact absurd h (by decide))];have := numAt_bd (s.extract p s.size) 4;have e4 : (256 : Int) ^ 4 = 4294967296 := by decide
 rw [e4] at this;have e : (4 : Int).natAbs = 4 := rfl;rw [e]; omega
def tripG (X : List Int) (st : Int) (k : Nat) : S61 := ⟨rd X ((3 * k : Nat) : Int), rd X ((3 * k + 1 : Nat) : Int), rd X ((3 * k + 2 : Nat) : Int), st⟩
def spansG (s : ByteArray) (n : Nat) (st : Int) : List S61 := (List.range n).map (fun i => ⟨w4 s (16 + 12 * i), w4 s (20 + 12 * i), w4 s (24 + 12 * i), st⟩)
def getG (s : ByteArray) : List S61 × Int :=
 if s.size < 16 then ([], 4)
 else if w2 s 0 ≠ 12 ∧ w2 s 0 ≠ 13 then ([], 5)
 else if 65536 < w4 s 12 then ([], 7)
 else if w4 s 4 ≠ 16 + 12 * w4 s 12 then ([], 5)
 else if (s.size : Int) < w4 s 4 then ([], 4)
 else if isL (spansG s (w4 s 12).toNat (13 - w2 s 0)) = true then (spansG s (w4 s 12).toNat (13 - w2 s 0), 0) else ([], 5)
def headG (s : ByteArray) : List Int := [w2 s 0, w2 s 2, w4 s 4, w4 s 8, w4 s 12]
theorem take_of {t : ByteArray} {s : Int} {r : List Int} {q : List Int} (h : s.natAbs ≤ t.size) (hq : takes (t.extract s.natAbs t.size) r = some q) : takes t (s :: r) = some (takeN t s :: q) := by
 simp only [takes];rw [if_pos h, hq];rfl
theorem ext_ext (s : ByteArray) (p n : Nat) (h : p + n ≤ s.size) : (s.extract p s.size).extract n (s.extract p s.size).size = s.extract (p + n) s.size := by
 have h2 : (s.extract p s.size).size = s.size - p := by simp
 rw [h2];apply ByteArray.ext
 simp only [ByteArray.data_extract];rw [Array.extract_extract];congr 1
 omega
theorem head_get (s : ByteArray) : getN s 0 [2, 2, 4, 4, 4] = if 16 ≤ s.size then (headG s, 0) else ([], 4) := by
  unfold getN
  rw [if_neg (by rintro (h | h)
                 · exact absurd h (by decide)
                 exact absurd h (by decide)), if_neg (by omega)]
  have e0 : (0 : Int).toNat = 0 := rfl;rw [e0];by_cases h : 16 ≤ s.size
  · rw [if_pos h]
    have a2 : (2 : Int).natAbs = 2 := rfl;have a4 : (4 : Int).natAbs = 4 := rfl;have hs0 : (s.extract 0 s.size).size = s.size := by simp
    have sz : ∀ p, (s.extract p s.size).size = s.size - p := fun p => by simp
    have t5 : takes (s.extract 12 s.size) [4] = some [w4 s 12] := take_of (by rw [a4, sz]; omega) (by rw [a4]; rfl);have t4 : takes (s.extract 8 s.size) [4, 4] = some [w4 s 8, w4 s 12] := take_of (by rw [a4, sz]; omega) (by rw [a4, ext_ext s 8 4 (by omega)]; exact t5);have t3 : takes (s.extract 4 s.size) [4, 4, 4] = some [w4 s 4, w4 s 8, w4 s 12] := take_of (by rw [a4, sz]; omega) (by rw [a4, ext_ext s 4 4 (by omega)]; exact t4);have t2 : takes (s.extract 2 s.size) [2, 4, 4, 4] = some [w2 s 2, w4 s 4, w4 s 8, w4 s 12] := take_of (by rw [a2, sz]; omega) (by rw [a2, ext_ext s 2 2 (by omega)]; exact t3);have t1 : takes (s.extract 0 s.size) [2, 2, 4, 4, 4] = some [w2 s 0, w2 s 2, w4 s 4, w4 s 8, w4 s 12] := take_of (by rw [a2, sz]; omega) (by rw [a2, ext_ext s 0 2 (by omega)]; exact t2);rw [t1];rfl
  rw [if_neg h]
  have hnone : takes (s.extract 0 s.size) [2, 2, 4, 4, 4] = none := by
    cases hq : takes (s.extract 0 s.size) [2, 2, 4, 4, 4] with
    | none => rfl
    | some r =>
      have sz : ∀ p, (s.extract p s.size).size = s.size - p := fun p => by simp
      have a2 : (2 : Int).natAbs = 2 := rfl;have a4 : (4 : Int).natAbs = 4 := rfl;exfalso
      simp only [takes, a2, a4] at hq;split at hq
      · rename_i c1
        rw [ext_ext s 0 2 (by rw [sz] at c1; omega)] at hq;split at hq
        · rename_i c2
          rw [ext_ext s (0 + 2) 2 (by rw [sz] at c2; omega)] at hq;split at hq
          · rename_i c3
            rw [ext_ext s (0 + 2 + 2) 4 (by rw [sz] at c3; omega)] at hq;split at hq
            · rename_i c4
              rw [ext_ext s (0 + 2 + 2 + 4) 4 (by rw [sz] at c4; omega)] at hq;split at hq
              · rename_i c5
                rw [sz] at c5;omega
              simp at hq
            simp at hq
          simp at hq
        simp at hq
      simp at hq
  rw [hnone]
theorem chunk0_in (l n Bs Bn : Nat) (A : Option Addr) (cap : Nat) (J : List (Fin 0) → World → Prop) (W : World) (hBs : W.cell? ⟨Bs, 0, none⟩ = some (.slice A 0 cap)) (h0 : J [] W) :
  CallsIn Fence.wide n Tryz.prog 44 #[.func (.yield l) #[] #[], .pointer (some ⟨Bs, 0, none⟩), .pointer (some ⟨Bn, 0, none⟩)] W fun e W' => (∃ v, e = .returned v) ∧ (J [] W') := by
 refine callsIn_of_wp Tryz.func44 rfl trivial ?_ rfl;simp only [Tryz.ntmps44, List.size_toArray, List.length_cons, List.length_nil, Nat.reduceAdd, Nat.reduceSub, Array.replicate_succ, Array.replicate_zero, List.push_toArray, List.append_toArray, List.nil_append, List.cons_append];gi_wp2
 gi_loopw [4] (fun i wr => i = .int .i64 0 ∧ wr = W) (fun i _ => 0)
 case atStart => exact ⟨rfl, rfl⟩
 case round =>
  obtain ⟨rfl, rfl⟩ := hrel;gi_wp2
  go_end0
  exact ⟨⟨_, rfl⟩, h0⟩
theorem chunk0_stops (n Bs Bn : Nat) (A : Option Addr) (cap : Nat) (ks : List Nat) (w : World) (hlt1 : Bs < w.heap.size) (hBs : w.cell? ⟨Bs, 0, none⟩ = some (.slice A 0 cap)) (vals : Fin 0 → Array Value) :
  SeqStopsK Fence.wide n Tryz.prog 44 #[.pointer (some ⟨Bs, 0, none⟩), .pointer (some ⟨Bn, 0, none⟩)] vals (KeepsB ks) (fun ys => ys = List.finRange 0) (fun _ => True) 0 w := fun l J Jx W hW hJ _ hY h0 =>
 (chunk0_in l n Bs Bn A cap J W ((hW.cell (p := ⟨Bs, 0, none⟩) hlt1).trans hBs) h0).mono (fun e W' ⟨h1, h2⟩ => ⟨h1, .inl ⟨_, rfl, h2⟩⟩)
structure RowS (w : World) (B : Nat) (ks : List Nat) (w3 : World) (W : World) (v : Value) (xs : List S61) : Prop where
 c : W.cell? ⟨B, 0, none⟩ = some v
 z : W.frozen? ⟨B, 0, none⟩ = false
 r : Kd.R k61 61 W w.heap.size (fun k => w3.heap.size ≤ k) v xs
 hB : Below w.heap.size w W
 hS : w3.heap.size ≤ W.heap.size
 hK : KeepsB ks w3 W
namespace RowS
variable {w w3 W U : World} {B : Nat} {ks : List Nat} {v v1 : Value} {xs ys : List S61}
theorem own_cells (h : RowS w B ks w3 W v xs) (k : Nat) (hk : v.ownBlock = some k) : w3.heap.size ≤ k ∧ k < W.heap.size ∧ ∃ cells q, W.heap[k]? = some (.cells cells q (0, 0)) := by
 have hb := (Kd.R_bound h.r).1 k hk;obtain ⟨h1, h2, h3, q, hq, cells, hc⟩ := hb;exact ⟨h1, h3, cells, q, hc⟩
theorem kept (h : RowS w B ks w3 W v xs) (hwB : w.heap.size ≤ B) (hB3 : B < w3.heap.size) (hks : ∀ k ∈ ks, k < w3.heap.size) {row : Option Nat} (hg : W.grownBy U row) (hr : ∀ r, row = some r → w3.heap.size ≤ r ∧ ∃ o : Obj, W.heap[r]? = some o ∧ o.isCells = false) : RowS w B ks w3 U v xs := by
 have hS := h.hS;have eB : U.heap[B]? = W.heap[B]? := hg.block B (by omega) (fun e => by have := (hr B e.symm).1; omega);refine ⟨(cell_of eB).trans h.c, (frozen_of eB).trans h.z, ?_, h.hB.grown hg h.hB.size (fun k e => by have := (hr k e).1; omega), Nat.le_trans h.hS hg.size, fun k hk => ?_⟩
 ·
  refine Kd.R_mono (Kd.R_grown (Kd.R_bound h.r) hg (fun k hk e => ?_)) (fun k hk => hk.1);obtain ⟨_, _, _, q, _, cells, hc⟩ := hk;obtain ⟨_, o, ho, hn⟩ := hr k e.symm;rw [hc] at ho;injection ho with ho
  subst ho;exact absurd hn (by simp [Obj.isCells])
 have := hks k hk;exact (hg.block k (by omega) (fun e => by have := (hr k e.symm).1; omega)).trans (h.hK k hk)
theorem grew (h : RowS w B ks w3 W v xs) (hwB : w.heap.size ≤ B) (hB3 : B < w3.heap.size) (hks : ∀ k ∈ ks, k < w3.heap.size) (hBk : B ∉ ks) (hr : Kd.R k61 61 U w.heap.size (fun k => w3.heap.size ≤ k) v1 ys) (hb : Below w.heap.size w U) (hg : W.grownBy U v.ownBlock) :
  U.cell? ⟨B, 0, none⟩ = some v ∧ U.frozen? ⟨B, 0, none⟩ = false ∧ RowS w B ks w3 (U.setCell ⟨B, 0, none⟩ v1) v1 ys ∧ KeepsB ks W (U.setCell ⟨B, 0, none⟩ v1) ∧
   (∀ (k : Nat) (o : Obj), W.heap[k]? = some o → o.isCells = false → k ≠ B → (U.setCell ⟨B, 0, none⟩ v1).heap[k]? = some o) := by
 have hS := h.hS;have ne : ∀ k, k < w3.heap.size → some k ≠ v.ownBlock := fun k hk e => by have := (h.own_cells k e.symm).1; omega
 have eB : U.heap[B]? = W.heap[B]? := hg.block B (by omega) (ne B hB3);have c1 : U.cell? ⟨B, 0, none⟩ = some v := (cell_of eB).trans h.c;have z1 : U.frozen? ⟨B, 0, none⟩ = false := (frozen_of eB).trans h.z
 have hkb : KeepsB ks W (U.setCell ⟨B, 0, none⟩ v1) := fun k hk => by
  have hk3 := hks k hk;have hne : k ≠ B := fun e => hBk (e ▸ hk)
  exact (Below.heap_setCell U ⟨B, 0, none⟩ v1 k hne).trans (hg.block k (by omega) (ne k hk3))
 refine ⟨c1, z1, ⟨World.cell?_setCell_same _ _ _ c1, by rw [World.frozen?_setCell]; exact z1, Kd.R_far hr (fun k hk => by show k ≠ B; omega) _, hb.setCell hwB _, ?_, h.hK.trans hkb⟩, hkb, fun k o hk ho hne => ?_⟩
 · have := hg.size; simp; omega
 refine (Below.heap_setCell U ⟨B, 0, none⟩ v1 k hne).trans ((hg.block k (Array.getElem?_eq_some_iff.1 hk).1 (fun e => ?_)).trans hk);obtain ⟨_, _, cells, q, hc⟩ := h.own_cells k e.symm;rw [hk] at hc;injection hc with hc
 subst hc;exact absurd ho (by simp [Obj.isCells])
theorem keepsFrom {P : Nat} (hB3 : B < P) (h : ∀ (k : Nat) (o : Obj), W.heap[k]? = some o → o.isCells = false → k ≠ B → U.heap[k]? = some o) (hs : W.heap.size ≤ U.heap.size) : KeepsFrom P W U :=
 ⟨hs, fun k o hk ho hn => h k o ho hn (by omega)⟩
end RowS
end Go.Proofs.YtejdflndgnpkcaaGreat.P
end
section
namespace Go.Proofs.YtejdflndgnpkcaaGreat.P
open Go.RowKit Go.Shelf PW PL PM
attribute [local go_sem] Oper.semAt_some
def partP (x : S61) (st : Int) (i : Nat) : S61 := ⟨x.f0 + (i : Int), x.f0 + (i : Int), x.f2 + x.f3 * (i : Int), st⟩
def partsL (x : S61) (st : Int) (n : Nat) : List S61 := ((List.range n).map (partP x st)).filter (fun y => decide (0 < y.f2))
def partsP (x : S61) (st : Int) : List S61 :=
 if x.f3 = st ∨ x.f0 = x.f1 then (if 0 < x.f2 ∨ (x.f3 = 1 ∧ x.f0 < x.f1) then [⟨x.f0, x.f1, x.f2, st⟩] else []) else partsL x st (x.f1 - x.f0 + 1).toNat
theorem partsL_succ (x : S61) (st : Int) (n : Nat) : partsL x st (n + 1) = partsL x st n ++ (if 0 < x.f2 + x.f3 * (n : Int) then [partP x st n] else []) := by
 unfold partsL;rw [List.range_succ, List.map_append, List.filter_append];congr 1
 rw [List.map_singleton];have e : (partP x st n).f2 = x.f2 + x.f3 * (n : Int) := rfl;by_cases h : 0 < x.f2 + x.f3 * (n : Int)
 · rw [if_pos h, List.filter_cons_of_pos (by rw [e]; exact decide_eq_true h), List.filter_nil]
 rw [if_neg h, List.filter_cons_of_neg (by rw [e]; simpa using h), List.filter_nil]
theorem partsL_pre (x : S61) (st : Int) (m : Nat) : ∀ d, ∃ t, partsL x st m ++ t = partsL x st (m + d)
 | 0 => ⟨[], by simp⟩
 | d + 1 => by
  obtain ⟨t, h⟩ := partsL_pre x st m d;exact ⟨t ++ _, by rw [← Nat.add_assoc, partsL_succ, ← h, List.append_assoc]⟩
def encP (y : S61) : Value := .agg #[.int .i64 y.f0, .int .i64 y.f1, .int .i64 y.f2, .int .i64 y.f3]
theorem keepsB_alloc {ks : List Nat} {W : World} (o : Obj) (h : ∀ k ∈ ks, k < W.heap.size) : KeepsB ks W (W.alloc o) := fun k hk => Below.heap_alloc W o k (h k hk)
theorem parts_in (l n Bx Bs : Nat) (x : S61) (st : Int) (hx : rightN x = true) (hbs : Bx ≠ Bs) (J Jx : List S61 → World → Prop)
  (hY : ∀ pre y W, J pre W → YieldAt Fence.wide (n - 1) Tryz.prog l #[encP y] W fun e W' =>
   (e = .returned (.bool true) ∧ J (pre ++ [y]) W' ∧ KeepsB [Bx, Bs] W W') ∨ (e = .returned (.bool false) ∧ Jx (pre ++ [y]) W'))
  (hJ : ∀ pre W o, J pre W → J pre (W.alloc o)) (W : World) (hJs : J [] (W.setCell ⟨Bx, 3, none⟩ (.int .i64 st))) (h0 : W.cell? ⟨Bx, 0, none⟩ = some (.int .i64 x.f0)) (h1 : W.cell? ⟨Bx, 1, none⟩ = some (.int .i64 x.f1)) (h2 : W.cell? ⟨Bx, 2, none⟩ = some (.int .i64 x.f2)) (h3 : W.cell? ⟨Bx, 3, none⟩ = some (.int .i64 x.f3))
  (hz : W.frozen? ⟨Bx, 3, none⟩ = false) (hs : W.cell? ⟨Bs, 0, none⟩ = some (.int .i64 st)) (hJ0 : J [] W) :
  CallsIn Fence.wide n Tryz.prog 118 #[.func (.yield l) #[] #[], .pointer (some ⟨Bx, 0, none⟩), .pointer (some ⟨Bs, 0, none⟩)] W fun e W' => (∃ v, e = .returned v) ∧
   (J (partsP x st) W' ∨ (∃ pre t, pre ++ t = partsP x st ∧ Jx pre W')) := by
 have HX := hI ((right_iff x).1 hx);clear hx;by_cases hone : x.f3 = st ∨ x.f0 = x.f1
 ·
  have hq : ∃ q : Bool, (x.f3 == st) = q ∧ (q = false → (x.f0 == x.f1) = true) := ⟨_, rfl, fun hq => by simp at hq ⊢; omega⟩;obtain ⟨q, a1, a2⟩ := hq;by_cases hhas : 0 < x.f2 ∨ (x.f3 = 1 ∧ x.f0 < x.f1)
  ·
   have HP := hI (show partsP x st = [⟨x.f0, x.f1, x.f2, st⟩] by unfold partsP; rw [if_pos hone, if_pos hhas]);have hp : ∃ p : Bool, decide (0 < x.f2) = p ∧ (p = false → (x.f3 == 1) = true ∧ decide (x.f0 < x.f1) = true) := ⟨_, rfl, fun hp => by simp at hp ⊢; omega⟩;obtain ⟨p, b1, b2⟩ := hp;obtain ⟨fn, tmps, assign, body, hy, hR⟩ := hY [] ⟨x.f0, x.f1, x.f2, st⟩ _ hJs;dsimp only [encP] at hy
   clear hone hhas;have HQ := hI a2;have HP2 := hI b2;clear a2 b2;cases q <;> cases p
   case' false.false => have a3 := HQ.out rfl; have b3 := (HP2.out rfl).1; have b4 := (HP2.out rfl).2
   case' false.true => have a3 := HQ.out rfl
   case' true.false => have b3 := (HP2.out rfl).1; have b4 := (HP2.out rfl).2
   all_goals
    refine callsIn_of_wp Tryz.func118 rfl trivial ?_ rfl;simp only [Tryz.ntmps118, List.size_toArray, List.length_cons, List.length_nil, Nat.reduceAdd, Nat.reduceSub, Array.replicate_succ, Array.replicate_zero, List.push_toArray, List.append_toArray, List.nil_append, List.cons_append];gi_wp2_with fail
    refine ⟨fun e => by simp [Fence.wide] at e, hR.mono ?_⟩;clear hy hR;rintro e W3 (⟨rfl, hJ3, _⟩ | ⟨rfl, hJx3⟩)
    ·
     gi_wp2
     refine bodyPost_ret (results_none rfl _ _ _) rfl ?_;exact ⟨⟨_, rfl⟩, .inl (by rw [HP.out]; exact hJ3)⟩
    gi_wp2
    refine bodyPost_ret (results_none rfl _ _ _) rfl ?_;exact ⟨⟨_, rfl⟩, .inr ⟨_, [], by rw [HP.out, List.append_nil]; rfl, hJx3⟩⟩
  have HP := hI (show partsP x st = [] by unfold partsP; rw [if_pos hone, if_neg hhas]);have b1 : decide (0 < x.f2) = false := decide_eq_false (by omega);have hp : ∃ p : Bool, (x.f3 == 1) = p ∧ (p = true → decide (x.f0 < x.f1) = false) := ⟨_, rfl, fun hp => by simp at hp ⊢; omega⟩;obtain ⟨p, b2, b3⟩ := hp;clear hone hhas;have HQ := hI a2;have HP2 := hI b3;clear a2 b3;cases q <;> cases p
  case' false.false => have a3 := HQ.out rfl
  case' false.true => have a3 := HQ.out rfl; have b3 := HP2.out rfl
  case' true.true => have b3 := HP2.out rfl
  all_goals
   refine callsIn_of_wp Tryz.func118 rfl trivial ?_ rfl;simp only [Tryz.ntmps118, List.size_toArray, List.length_cons, List.length_nil, Nat.reduceAdd, Nat.reduceSub, Array.replicate_succ, Array.replicate_zero, List.push_toArray, List.append_toArray, List.nil_append, List.cons_append];gi_wp2
   refine bodyPost_ret (results_none rfl _ _ _) rfl ?_;exact ⟨⟨_, rfl⟩, .inl (by rw [HP.out]; exact hJ0)⟩
 obtain ⟨m, hm⟩ : ∃ m, m = (x.f1 - x.f0 + 1).toNat := ⟨_, rfl⟩;have HP := hI (show partsP x st = partsL x st m by unfold partsP; rw [if_neg hone, hm]);have a1 : (x.f3 == st) = false := by simp; omega
 have a2 : (x.f0 == x.f1) = false := by simp; omega
 have hw1 : wrap64 (x.f1 - x.f0) = x.f1 - x.f0 := by have := HX.out; unfold wrap64; omega
 have hw2 : wrap64 (x.f1 - x.f0 + 1) = (m : Int) := by have := HX.out; unfold wrap64; omega
 have HM := hI (show m ≤ 1114112 by have := HX.out; omega);have HM2 := hI (show (m : Int) = x.f1 - x.f0 + 1 by have := HX.out; omega);have hlt1 := World.block_lt_of_cell? _ _ h0;have hlt2 := World.block_lt_of_cell? _ _ hs;have HL := hI (show Bx < W.heap.size ∧ Bs < W.heap.size from ⟨hlt1, hlt2⟩);have H0 := hI h0;have H1 := hI h1;have H2 := hI h2;have H3 := hI h3;have HS := hI hs;clear hone hm hlt1 hlt2;refine callsIn_of_wp Tryz.func118 rfl trivial ?_ rfl;simp only [Tryz.ntmps118, List.size_toArray, List.length_cons, List.length_nil, Nat.reduceAdd, Nat.reduceSub, Array.replicate_succ, Array.replicate_zero, List.push_toArray, List.append_toArray, List.nil_append, List.cons_append];gi_wp2_with fail
 rw [hw2];clear h0 h1 h2 h3 hs hz a1 a2 hw1 hw2;gi_loopw [43] (fun v43 wr => ∃ k : Nat, k ≤ m ∧ v43 = .int .i64 (k : Int) ∧ J (partsL x st k) wr ∧ KeepsB [Bx, Bs] W wr) (fun v43 _ => m - (intOf v43).toNat)
 case atStart => exact ⟨0, Nat.zero_le _, rfl, hJ0, KeepsB.refl _ _⟩
 case round =>
  obtain ⟨k, hk, rfl, hJs', hnx⟩ := hrel;have HNX := hI hnx;have HJK := hI hJs';by_cases hlt : k < m
  ·
   have c0 := (hnx.cell (p := ⟨Bx, 0, none⟩) (by simp)).trans H0.out;have c2 := (hnx.cell (p := ⟨Bx, 2, none⟩) (by simp)).trans H2.out;have c3 := (hnx.cell (p := ⟨Bx, 3, none⟩) (by simp)).trans H3.out;have cs := (hnx.cell (p := ⟨Bs, 0, none⟩) (by simp)).trans HS.out;have d1 : decide ((k : Int) < (m : Int)) = true := decide_eq_true (by omega);have w1 : wrap64 (x.f0 + (k : Int)) = x.f0 + (k : Int) := by have := HX.out; have := HM2.out; unfold wrap64; omega
   have hgk : 0 ≤ x.f3 * (k : Int) ∧ x.f3 * (k : Int) ≤ 1114112 := by
    have := HX.out; have := HM.out
    rcases HX.out.2.2.2.1 with h | h <;> rw [h] <;> omega
   have w2 : wrap64 (x.f3 * (k : Int)) = x.f3 * (k : Int) := by unfold wrap64; omega
   have w3 : wrap64 (x.f2 + x.f3 * (k : Int)) = x.f2 + x.f3 * (k : Int) := by have := HX.out; unfold wrap64; omega
   have w4 : wrap64 ((k : Int) + 1) = ((k + 1 : Nat) : Int) := by have := HM.out; unfold wrap64; omega
   have HLT := hI hlt;have hz2 := (zero_of_info (P := Tryz.prog) (t := 61) (v := .agg #[.int .i64 0, .int .i64 0, .int .i64 0, .int .i64 0]) (n := 4) (by kernel_rfl)).1
   have hks : ∀ i ∈ [Bx, Bs], i < wr.heap.size := by
    have e1 := World.block_lt_of_cell? _ _ c0;have e2 := World.block_lt_of_cell? _ _ cs;intro i hi; simp at hi; rcases hi with rfl | rfl
    · exact e1
    exact e2
   have HA := hI (fun (o : Obj) => keepsB_alloc (ks := [Bx, Bs]) (W := wr) o hks);have HSU := hI (partsL_succ x st k);clear hlt hnx hJs' hgk hks;by_cases hg : 0 < x.f2 + x.f3 * (k : Int)
   ·
    have d2 : decide (0 < x.f2 + x.f3 * (k : Int)) = true := decide_eq_true hg;have HSP := hI (show partsL x st (k + 1) = partsL x st k ++ [⟨x.f0 + (k : Int), x.f0 + (k : Int), x.f2 + x.f3 * (k : Int), st⟩] by rw [HSU.out, if_pos hg]; rfl);clear hg;obtain ⟨fn, tmps, assign, body, hy, hR⟩ := hY (partsL x st k) ⟨x.f0 + (k : Int), x.f0 + (k : Int), x.f2 + x.f3 * (k : Int), st⟩ _ (hJ _ _ (.cells #[.int .i64 (x.f0 + (k : Int)), .int .i64 (x.f0 + (k : Int)), .int .i64 (x.f2 + x.f3 * (k : Int)), .int .i64 st] 61) HJK.out);dsimp only [encP] at hy
    gi_wp2_with fail
    refine ⟨fun e => by simp [Fence.wide] at e, hR.mono ?_⟩;clear hy hR;rintro e W3 (⟨rfl, hJ3, hk3⟩ | ⟨rfl, hJx3⟩)
    ·
     have HJ3 := hI hJ3;have HK3 := hI ((HA.out _).trans hk3);clear hJ3 hk3 c0 c2 c3 cs;gi_wp2
     go_roundw
     case rel => exact ⟨k + 1, HLT.out, by rw [w4], by rw [HSP.out]; exact HJ3.out, HNX.out.trans HK3.out⟩
     case measure => rw [w4]; exact less_step (by decide) HLT.out
    have HJ3 := hI hJx3;clear hJx3 c0 c2 c3 cs;gi_wp2
    refine bodyPost_ret (results_none rfl _ _ _) rfl ?_;obtain ⟨t, ht⟩ := partsL_pre x st (k + 1) (m - (k + 1));have e2 : k + 1 + (m - (k + 1)) = m := by have := HLT.out; omega
    exact ⟨⟨_, rfl⟩, .inr ⟨_, t, by rw [HP.out, ← HSP.out, ht, e2], HJ3.out⟩⟩
   have d2 : decide (0 < x.f2 + x.f3 * (k : Int)) = false := decide_eq_false hg;have HSP := hI (show partsL x st (k + 1) = partsL x st k by rw [HSU.out, if_neg hg, List.append_nil]);have hJA := hJ _ _ (.cells #[.int .i64 (x.f0 + (k : Int)), .int .i64 (x.f0 + (k : Int)), .int .i64 (x.f2 + x.f3 * (k : Int)), .int .i64 st] 61) HJK.out;have HJA := hI hJA;clear hg hJA;gi_wp2
   refine ⟨(fun f h => nomatch h), ?_⟩;try gi_wp2
   go_roundw
   case rel => exact ⟨k + 1, HLT.out, by rw [w4], by rw [HSP.out]; exact HJA.out, HNX.out.trans (HA.out _)⟩
   case measure => rw [w4]; exact less_step (by decide) HLT.out
  obtain rfl : k = m := by omega
  have d1 : decide ((k : Int) < (k : Int)) = false := decide_eq_false (by omega);gi_wp2
  go_end0
  exact ⟨⟨_, rfl⟩, .inl (by rw [HP.out]; exact HJK.out)⟩
def markOf (D : Nat) : Deferred := { target := .collected D, args := #[] }
theorem range_parts {n : Nat} {g : Operand} {p : Nat} {assign body : Code} {Q : Exit → Act → World → Prop} {a : Act} {w : World} (Bx Bs : Nat) (x : S61) (st : Int) (hx : rightN x = true) (hbs : Bx ≠ Bs) (hn : 1 ≤ n)
  (hg : a.eval g = .func (.func 118) #[] #[.pointer (some ⟨Bx, 0, none⟩), .pointer (some ⟨Bs, 0, none⟩)])
  (c0 : w.cell? ⟨Bx, 0, none⟩ = some (.int .i64 x.f0)) (c1 : w.cell? ⟨Bx, 1, none⟩ = some (.int .i64 x.f1)) (c2 : w.cell? ⟨Bx, 2, none⟩ = some (.int .i64 x.f2)) (c3 : w.cell? ⟨Bx, 3, none⟩ = some (.int .i64 x.f3))
  (cz : w.frozen? ⟨Bx, 3, none⟩ = false) (cs : w.cell? ⟨Bs, 0, none⟩ = some (.int .i64 st))
  (I : List S61 → World → Prop) (Ix : Code → List S61 → World → Prop) (hI : OwnFrom w.heap.size I) (hIx : ∀ c, OwnFrom w.heap.size (Ix c)) (h0 : I [] w) (h0s : ∀ W, w.grownBy W none → I [] (W.setCell ⟨Bx, 3, none⟩ (.int .i64 st)))
  (a₁ : S61 → Nat → Act)
  (hassign : ∀ (l : Nat) (y : S61) (W : World) (b : Nat) (K : Act → World → Prop), W.heap.size = b → K (a₁ y b) (W.alloc (.cells #[.int .i64 y.f0, .int .i64 y.f1, .int .i64 y.f2, .int .i64 y.f3] 61)) →
   assign.wpIn (Fence.wide.inRound l) (n - 1 - 1) Tryz.prog (Exit.then K (fun _ _ _ => False)) { tmps := ((#[p] : Array Tmp).zip #[encP y]).foldl (fun t (q, v) => t.setIfInBounds q v) a.tmps, defers := [] } W)
  (hbody : ∀ (l : Nat) (pre : List S61) (y : S61) (W : World) (b : Nat), I pre W → w.heap.size ≤ b → W.heap[b]? = some (.cells #[.int .i64 y.f0, .int .i64 y.f1, .int .i64 y.f2, .int .i64 y.f3] 61 (0, 0)) →
   body.wpIn (Fence.wide.inRound l) (n - 1 - 1) Tryz.prog (ownPostG w.heap.size (KeepsB [Bx, Bs]) I Ix (pre ++ [y]) W) (a₁ y b) W)
  (hdone : ∀ (D : Nat) (W : World), w.heap.size ≤ D → I (partsP x st) W → W.heap[D]? = some (.deferred (some [])) → Q .normal { a with defers := markOf D :: a.defers } W)
  (hstop : ∀ (D : Nat) (c : Code) (pre t : List S61) (W : World), w.heap.size ≤ D → pre ++ t = partsP x st → Ix c pre W → W.heap[D]? = some (.deferred (some [])) → c.wpIn Fence.wide n Tryz.prog Q { a with defers := markOf D :: a.defers } W) :
  (Code.rangeFunc g #[p] assign body).wpIn Fence.wide n Tryz.prog Q a w := by
 have hBx := World.block_lt_of_cell? _ _ c0;have hBs := World.block_lt_of_cell? _ _ cs;dsimp only at hBx hBs
 refine wpIn_rangeFunc fun fn hfn => ?_
 rw [show Fence.wide.round = none from rfl];obtain ⟨rc, hrc⟩ : ∃ rc : LoopState → Option Code → Loop, rc = fun u pe => { state := u, pending := pe, fn, tmps := a.tmps, params := #[p], assign, body, defers := w.heap.size } := ⟨_, rfl⟩
 obtain ⟨V, hV⟩ : ∃ V, V = (w.alloc (.deferred (some []))).alloc (.loop (rc .ready none)) := ⟨_, rfl⟩;obtain ⟨L, hL⟩ : ∃ L, L = w.heap.size + 1 := ⟨_, rfl⟩;have hVg : w.grownBy V none := by rw [hV]; exact (World.grownBy_alloc w _ none).trans (World.grownBy_alloc _ _ none)
 have hVL : V.heap[L]? = some (.loop (rc .ready none)) := by
  have e := World.alloc_heap_new (w.alloc (.deferred (some []))) (.loop (rc .ready none));rw [World.size_alloc] at e;rw [hV, hL]; exact e
 have hVD : V.heap[w.heap.size]? = some (.deferred (some [])) := by
  rw [hV]; exact (Below.heap_alloc _ _ _ (by simp)).trans (World.alloc_heap_new w _)
 have hVI : I [] V := by rw [hV]; exact hI.alloc _ (hI.alloc _ h0)
 have hVc : ∀ k, k < w.heap.size → V.heap[k]? = w.heap[k]? := fun k hk => hVg.block k hk (fun e => by cases e)
 refine ⟨L, [markOf w.heap.size], V, { target := .fn (.func 118) #[.pointer (some ⟨Bx, 0, none⟩), .pointer (some ⟨Bs, 0, none⟩)], args := #[.func (.yield L) #[] #[]] }, V, 118,
  #[.func (.yield L) #[] #[]] ++ #[.pointer (some ⟨Bx, 0, none⟩), .pointer (some ⟨Bs, 0, none⟩)], V, ?_, ?_, ?_, ?_, fun _ => hn, ?_⟩
 · rw [hV, hL, hrc]; exact run_enterLoop_outer _ _ _ _ _
 ·
  simp only [resolve, hg];simp [go_sem]
 · exact fun _ _ => trivial
 ·
  simp [invoke, go_sem, enters_of Tryz.func118 (by kernel_rfl) rfl]

 have hcell : ∀ (q : Addr), q.block < w.heap.size → V.cell? q = w.cell? q := fun q hq => cell_of (hVc _ hq)
 refine (parts_in L (n - 1) Bx Bs x st hx hbs
  (fun pre W => I pre W ∧ W.heap[L]? = some (.loop (rc .ready none)) ∧ W.heap[w.heap.size]? = some (.deferred (some [])))
  (fun pre W => ∃ c, Ix c pre W ∧ W.heap[L]? = some (.loop (rc .done (some c))) ∧ W.heap[w.heap.size]? = some (.deferred (some [])))
  ?round ?grow V ?store ((hcell _ hBx).trans c0) ((hcell _ hBx).trans c1) ((hcell _ hBx).trans c2) ((hcell _ hBx).trans c3) ((frozen_of (hVc _ hBx)).trans cz) ((hcell _ hBs).trans cs) ⟨hVI, hVL, hVD⟩).mono ?_
 case grow =>
  rintro pre W o ⟨h1, h2, h3⟩;exact ⟨hI.alloc _ h1, (Below.heap_alloc W o _ (blk_lt h2)).trans h2, (Below.heap_alloc W o _ (blk_lt h3)).trans h3⟩
 case store =>
  exact ⟨h0s V hVg, (Below.heap_setCell V _ _ L (show L ≠ Bx by omega)).trans hVL, (Below.heap_setCell V _ _ _ (show w.heap.size ≠ Bx by omega)).trans hVD⟩
 case round =>
  rintro pre y W ⟨h1, h2, h3⟩;have hy := run_yield (P := Tryz.prog) (args := #[encP y]) h2 (by rw [hrc]; rfl);rw [hrc] at hy;refine ⟨fn, _, assign, body, hy, roundIn_of_wpIn hfn (hassign _ y W _ _ rfl ?_)⟩;clear hy;obtain ⟨U, hU⟩ : ∃ U, U = W.alloc (.cells #[.int .i64 y.f0, .int .i64 y.f1, .int .i64 y.f2, .int .i64 y.f3] 61) := ⟨_, rfl⟩;rw [← hU];have u1 : I pre U := by rw [hU]; exact hI.alloc _ h1
  have u2 : U.heap[L]? = some (.loop (rc .ready none)) := by rw [hU]; exact (Below.heap_alloc W _ _ (blk_lt h2)).trans h2
  have u3 : U.heap[w.heap.size]? = some (.deferred (some [])) := by rw [hU]; exact (Below.heap_alloc W _ _ (blk_lt h3)).trans h3
  have u4 : U.heap[W.heap.size]? = some (.cells #[.int .i64 y.f0, .int .i64 y.f1, .int .i64 y.f2, .int .i64 y.f3] 61 (0, 0)) := by rw [hU]; exact World.alloc_heap_new W _
  have hLW := blk_lt h2
  have uK : KeepsB [Bx, Bs] W U := by
   rw [hU];exact keepsB_alloc _ (fun k hk => by simp at hk; omega)
  clear hU h1 h2 h3;refine ⟨_, run_beginRound u2 (by rw [hrc]), ?_⟩;obtain ⟨T, hT⟩ : ∃ T, T = U.putObj L (.loop { rc .ready none with state := .busy }) := ⟨_, rfl⟩;rw [← hT];have t1 : I pre T := by rw [hT]; exact hI.putObj _ u1 (by omega) u2 rfl
  have t2 : T.heap[L]? = some (.loop { rc .ready none with state := .busy }) := by rw [hT]; exact World.putObj_heap_same (blk_lt u2)
  have t3 : T.heap[w.heap.size]? = some (.deferred (some [])) := by rw [hT]; exact (World.putObj_heap_other (by omega)).trans u3
  have t4 : T.heap[W.heap.size]? = some (.cells #[.int .i64 y.f0, .int .i64 y.f1, .int .i64 y.f2, .int .i64 y.f3] 61 (0, 0)) := by rw [hT]; exact (World.putObj_heap_other (by omega)).trans u4
  have tK : KeepsB [Bx, Bs] U T := fun k hk => by rw [hT]; simp at hk; exact World.putObj_heap_other (by omega)
  clear hT u1 u2 u3 u4;refine wpIn_mono (hbody _ pre y T W.heap.size t1 (by omega) t4) ?_
  have fin : ∀ (j : Option Code) (W3 : World), KeepsFrom w.heap.size T W3 →
    (Instr.endRound L j).run Tryz.prog W3 = .ok (.bool j.isNone) (W3.putObj L (.loop (rc (if j.isNone then .ready else .done) j))) ∧ W3.heap[L]? = some (.loop { rc .ready none with state := .busy }) ∧
    (W3.putObj L (.loop (rc (if j.isNone then .ready else .done) j))).heap[L]? = some (.loop (rc (if j.isNone then .ready else .done) j)) ∧
    (W3.putObj L (.loop (rc (if j.isNone then .ready else .done) j))).heap[w.heap.size]? = some (.deferred (some [])) := fun j W3 hk3 => by
   have hl3 := hk3.same _ _ (by omega) t2 rfl;have e := run_endRound (P := Tryz.prog) j hl3;rw [hrc] at e hl3 ⊢;exact ⟨e, hl3, World.putObj_heap_same (blk_lt hl3), (World.putObj_heap_other (by omega)).trans (hk3.same _ _ (Nat.le_refl _) t3 rfl)⟩
  have leave : ∀ (c : Code) (W3 : World), KeepsFrom w.heap.size T W3 → Ix c (pre ++ [y]) W3 → ∃ (v : Value) (w' : World), (Instr.endRound L (some c)).run Tryz.prog W3 = .ok v w' ∧
    ((Ending.returned v = .returned (.bool true) ∧ (I (pre ++ [y]) w' ∧ w'.heap[L]? = some (.loop (rc .ready none)) ∧ w'.heap[w.heap.size]? = some (.deferred (some []))) ∧ KeepsB [Bx, Bs] W w') ∨
     (Ending.returned v = .returned (.bool false) ∧ ∃ c, Ix c (pre ++ [y]) w' ∧ w'.heap[L]? = some (.loop (rc .done (some c))) ∧ w'.heap[w.heap.size]? = some (.deferred (some [])))) := fun c W3 hk3 hi3 => by
   obtain ⟨hr, hl3, hl4, hk4⟩ := fin (some c) W3 hk3;exact ⟨_, _, hr, .inr ⟨rfl, c, (hIx _).putObj _ hi3 (by omega) hl3 rfl, hl4, hk4⟩⟩
  rintro e a3 W3 hp;cases e with
  | normal =>
   obtain ⟨hk3, hkp3, hi3⟩ := hp;obtain ⟨hr, hl3, hl4, hk4⟩ := fin none W3 hk3;refine ⟨_, _, hr, .inl ⟨rfl, ⟨hI.putObj _ hi3 (by omega) hl3 rfl, hl4, hk4⟩, uK.trans (tK.trans (hkp3.trans fun k hk => ?_))⟩⟩;simp at hk
   exact World.putObj_heap_other (by omega)
  | ret => exact leave _ _ hp.1 hp.2
  | exit id => exact leave _ _ hp.1 hp.2
  | goto t => exact leave _ _ hp.1 hp.2
  | panic ch => exact hp.elim
  | outgrown => exact hp.elim
 rintro e W2 ⟨⟨v, rfl⟩, (⟨hi, hl, hk⟩ | ⟨pre, t, ht, c, hi, hl, hk⟩)⟩
 · exact ⟨none, _, by have e := run_endLoop (P := Tryz.prog) hl (by rw [hrc]; simp); rw [hrc] at e; exact e, hdone _ _ (Nat.le_refl _) (hI.putObj _ hi (by omega) hl rfl) ((World.putObj_heap_other (by omega)).trans hk)⟩
 exact ⟨some c, _, by have e := run_endLoop (P := Tryz.prog) hl (by rw [hrc]; simp); rw [hrc] at e; exact e, hstop _ c pre t _ (Nat.le_refl _) ht ((hIx c).putObj _ hi (by omega) hl rfl) ((World.putObj_heap_other (by omega)).trans hk)⟩
def splitL (l : List S61) (st : Int) : List S61 := l.flatMap (fun x => partsP x st)
def splitN (l : List S61) (st : Int) : List S61 × Int :=
 if isL l = false ∨ st < 0 ∨ 1 < st then ([], 1) else if (splitL l st).length ≤ 65536 then (splitL l st, 0) else ([], 7)
theorem splitL_succ (l : List S61) (st : Int) (i : Nat) (h : i < l.length) : splitL (l.take (i + 1)) st = splitL (l.take i) st ++ partsP (atS l i) st := by
 unfold splitL;rw [List.take_add_one, List.getElem?_eq_getElem h, List.flatMap_append, atS_get l i h];simp
theorem splitL_pre (l : List S61) (st : Int) (i : Nat) : (splitL (l.take i) st).length ≤ (splitL l st).length := by
 have e : splitL l st = splitL (l.take i) st ++ splitL (l.drop i) st := by
  unfold splitL;rw [← List.flatMap_append, List.take_append_drop]
 rw [e, List.length_append]; omega
def Marks (B : Nat) (Ds : List Nat) (W : World) : Prop := Ds.Nodup ∧ ∀ D ∈ Ds, B ≤ D ∧ W.heap[D]? = some (.deferred (some []))
theorem Marks.kept {B : Nat} {Ds : List Nat} {W U : World} (h : Marks B Ds W) (hk : ∀ D ∈ Ds, W.heap[D]? = some (.deferred (some [])) → U.heap[D]? = some (.deferred (some []))) : Marks B Ds U :=
 ⟨h.1, fun D hD => ⟨(h.2 D hD).1, hk D hD (h.2 D hD).2⟩⟩
theorem Marks.lt {B : Nat} {Ds : List Nat} {W : World} (h : Marks B Ds W) : ∀ D ∈ Ds, D < W.heap.size := fun D hD => blk_lt (h.2 D hD).2
theorem leaves_marks {F : Fence} {n : Nat} {P : Program} {fn : Func} {tmps : Array Value} {R : Ending → World → Prop} {B : Nat} (G : World → Prop) (hG : ∀ W D, G W → B ≤ D → W.heap[D]? = some (.deferred (some [])) → G (W.putObj D (.deferred none)))
  (hR : ∀ W, G W → LeavesInM F n P fn tmps R [] .returning W) : ∀ (Ds : List Nat) (W : World), Marks B Ds W → G W → LeavesInM F n P fn tmps R (Ds.map markOf) .returning W
 | [], W, _, h => hR W h
 | D :: Ds, W, hm, h => by
  have hd := hm.2 D List.mem_cons_self;refine ⟨by simp, .inl ⟨D, _, rfl, run_takeDeferred hd.2, ?_⟩⟩;refine leaves_marks G hG hR Ds _ ⟨(List.nodup_cons.1 hm.1).2, fun E hE => ?_⟩ (hG _ _ h hd.1 hd.2);have hne : E ≠ D := fun e => (List.nodup_cons.1 hm.1).1 (e ▸ hE)
  exact ⟨(hm.2 E (List.mem_cons_of_mem _ hE)).1, (World.putObj_heap_other hne).trans (hm.2 E (List.mem_cons_of_mem _ hE)).2⟩
structure EndS (w : World) (b4 b5 : Nat) (v : Value) (e : Int) (xs : List S61) (U : World) : Prop where
 c4 : U.cell? ⟨b4, 0, none⟩ = some v
 c5 : U.cell? ⟨b5, 0, none⟩ = some (.int .i64 e)
 r : Kd.R k61 61 U w.heap.size (fun _ => True) v xs
 hB : Below w.heap.size w U
theorem EndS.moved {w A U : World} {b4 b5 : Nat} {v : Value} {e : Int} {xs : List S61} {row : Option Nat} (h : EndS w b4 b5 v e xs A) (hg : A.grownBy U row) (hr : ∀ r, row = some r → w.heap.size ≤ r ∧ ∃ o : Obj, A.heap[r]? = some o ∧ o.isCells = false) : EndS w b4 b5 v e xs U := by
 have hne : ∀ {b : Nat} {u : Value}, A.cell? ⟨b, 0, none⟩ = some u → U.heap[b]? = A.heap[b]? := fun {b u} hc => by
  have hlt := World.block_lt_of_cell? _ _ hc;refine hg.block b hlt (fun e => ?_);obtain ⟨o, ho, hcs⟩ := cells_of_cell hc;obtain ⟨_, o', ho', hn⟩ := hr b e.symm;rw [ho] at ho';injection ho' with ho'
  rw [ho', hn] at hcs;exact absurd hcs (by decide)
 refine ⟨(cell_of (hne h.c4)).trans h.c4, (cell_of (hne h.c5)).trans h.c5, ?_, h.hB.grown hg h.hB.size (fun k e => (hr k e).1)⟩;refine Kd.R_mono (Kd.R_grown (Kd.R_bound h.r) hg (fun k hk e => ?_)) (fun _ _ => trivial);obtain ⟨_, _, _, q, _, cells, hc⟩ := hk;obtain ⟨_, o', ho', hn⟩ := hr k e.symm;rw [hc] at ho';injection ho' with ho'
 rw [← ho'] at hn;exact absurd hn (by simp [Obj.isCells])
theorem EndS.put {w U : World} {b4 b5 D : Nat} {v : Value} {e : Int} {xs : List S61} (h : EndS w b4 b5 v e xs U) (hB : w.heap.size ≤ D) (hd : U.heap[D]? = some (.deferred (some []))) : EndS w b4 b5 v e xs (U.putObj D (.deferred none)) :=
 h.moved (grownBy_putObj' U D (.deferred none)) (fun r er => by cases er; exact ⟨hB, _, hd, rfl⟩)
theorem RowS.below {w w3 W U : World} {B : Nat} {ks : List Nat} {v : Value} {xs : List S61} (h : RowS w B ks w3 W v xs) (hks : ∀ k ∈ ks, k < w3.heap.size) (hb : Below W.heap.size W U) : RowS w B ks w3 U v xs := by
 have hB := World.block_lt_of_cell? _ _ h.c;dsimp only at hB
 exact ⟨(hb.cell hB).trans h.c, (frozen_of (hb.block B hB)).trans h.z, Kd.R_below h.r hb, h.hB.trans (hb.mono h.hB.size), Nat.le_trans h.hS hb.size, fun k hk => (hb.block k (Nat.lt_of_lt_of_le (hks k hk) h.hS)).trans (h.hK k hk)⟩
theorem parts_calls (x : S61) (st : Int) (w : World) :
  Calls Tryz.prog 104 #[encP x, .int .i64 st] w fun e w' => e = .returned (.func (.func 118) #[] #[.pointer (some ⟨w.heap.size, 0, none⟩), .pointer (some ⟨w.heap.size + 1, 0, none⟩)]) ∧ w' = (w.alloc (.cells #[.int .i64 x.f0, .int .i64 x.f1, .int .i64 x.f2, .int .i64 x.f3] 61)).alloc (.cells #[.int .i64 st] 3) := by
 unfold encP;go_enter Tryz.func104, Tryz.ntmps104;go_wp2;go_ret;exact ⟨rfl, rfl⟩
theorem append_in {P : Program} {l n : Nat} {ops : Array Oper} {o : Oper} {rest : List Oper} {a : Act} {Q : Exit → Act → World → Prop} {W : World} (hd : noDefer o.op = true) (hw : Region.wanted o (yielded ops a.tmps) = true)
  (h : if Region.wanted o (yielded ops a.tmps) = true then Oper.wp P o a W (wpListIn (Fence.wide.inRound l) n P ops Q rest) Q else wpListIn (Fence.wide.inRound l) n P ops Q rest (a.put o.dst undef) W) : wpListIn (Fence.wide.inRound l) n P ops Q (o :: rest) a W := by
 unfold wpListIn;rw [if_pos hw] at h ⊢;exact oper_in hd h
theorem box_cells {U : World} {b : Nat} {f0 f1 f2 f3 : Value} {t : TypeId} (h : U.heap[b]? = some (.cells #[f0, f1, f2, f3] t (0, 0))) : U.cell? ⟨b, 0, none⟩ = some f0 ∧ U.cell? ⟨b, 1, none⟩ = some f1 ∧ U.cell? ⟨b, 2, none⟩ = some f2 ∧ U.cell? ⟨b, 3, none⟩ = some f3 := by
 refine ⟨?_, ?_, ?_, ?_⟩ <;> simp [World.cell?, h]
theorem ends_S {w w3 W : World} {B : Nat} {ks : List Nat} {v u : Value} {xs ys : List S61} {e : Int} {b4 b5 : Nat} (h : RowS w B ks w3 W v xs) (h4 : w.heap.size ≤ b4) (h5 : w.heap.size ≤ b5) (h45 : b4 ≠ b5) (q4 : b4 < w3.heap.size) (q5 : b5 < w3.heap.size) {u4 u5 : Value} (c4 : W.cell? ⟨b4, 0, none⟩ = some u4) (c5 : W.cell? ⟨b5, 0, none⟩ = some u5)
  (hu : Kd.R k61 61 W w.heap.size (fun k => w3.heap.size ≤ k) u ys) : EndS w b4 b5 u e ys ((W.setCell ⟨b4, 0, none⟩ u).setCell ⟨b5, 0, none⟩ (.int .i64 e)) ∧ (∀ (k : Nat), k ≠ b4 → k ≠ b5 → ((W.setCell ⟨b4, 0, none⟩ u).setCell ⟨b5, 0, none⟩ (.int .i64 e)).heap[k]? = W.heap[k]?) := by
 have hb5 : (W.setCell ⟨b4, 0, none⟩ u).heap[b5]? = W.heap[b5]? := Below.heap_setCell W _ _ b5 (fun e => h45 e.symm);have hb4 : ((W.setCell ⟨b4, 0, none⟩ u).setCell ⟨b5, 0, none⟩ (.int .i64 e)).heap[b4]? = (W.setCell ⟨b4, 0, none⟩ u).heap[b4]? := Below.heap_setCell _ _ _ b4 h45;refine ⟨⟨(cell_of hb4).trans (World.cell?_setCell_same _ _ _ c4), World.cell?_setCell_same _ _ _ ((cell_of hb5).trans c5), ?_, (h.hB.setCell h4 _).setCell h5 _⟩, fun k k4 k5 => (Below.heap_setCell _ _ _ k k5).trans (Below.heap_setCell _ _ _ k k4)⟩;exact Kd.R_mono (Kd.R_far (Kd.R_far hu (fun k hk => by show k ≠ b4; omega) _) (fun k hk => by show k ≠ b5; omega) _) (fun _ _ => trivial)
theorem span_bytesS {n : Nat} (h : n ≤ 65536) : (n + 1) * 32 ≤ 140737488355328 := by omega
theorem results_split (tmps : Array Value) (p q : Addr) (a : Value) (b : Int) (w : World) (h6 : tmps[4]?.getD undef = .pointer (some p)) (h7 : tmps[5]?.getD undef = .pointer (some q))
  (hp : w.cell? p = some a) (hq : w.cell? q = some (.int .i64 b)) : (results Tryz.f74 tmps).run Tryz.prog w = .ok (.tuple #[a, .int .i64 b]) w := by
 simp [results, Tryz.results74, go_sem, h6, h7, hp, hq]
theorem Marks.cons {B D : Nat} {Ds : List Nat} {W : World} (h : Marks B Ds W) {P : Nat} (hP : ∀ E ∈ Ds, E < P) (hD : P ≤ D) (hB : B ≤ D) (hd : W.heap[D]? = some (.deferred (some []))) : Marks B (D :: Ds) W :=
 ⟨List.nodup_cons.2 ⟨fun hm => by have := hP D hm; omega, h.1⟩, fun E hE => by
  rcases List.mem_cons.1 hE with rfl | hE
  · exact ⟨hB, hd⟩
  exact h.2 E hE⟩
theorem split_leaves {n : Nat} {tmps : Array Value} {w U : World} {B : Nat} {Ds : List Nat} {v : Value} {e : Int} {xs : List S61} (h4 : tmps[4]?.getD undef = .pointer (some ⟨w.heap.size, 0, none⟩)) (h5 : tmps[5]?.getD undef = .pointer (some ⟨w.heap.size + 1, 0, none⟩)) (hB : w.heap.size ≤ B) (hm : Marks B Ds U) (he : EndS w w.heap.size (w.heap.size + 1) v e xs U) {r : List S61 × Int} (hr : r = (xs, e)) :
  LeavesInM Fence.wide n Tryz.prog Tryz.f74 tmps (fun e w' => ∃ v0_ : Value, e = .returned (.tuple #[v0_, .int .i64 r.2]) ∧ Kd.R k61 61 w' w.heap.size (fun _ => True) v0_ r.1 ∧ Below w.heap.size w w') (Ds.map markOf) .returning U := by
 subst hr;exact leaves_marks (B := B) (EndS w w.heap.size (w.heap.size + 1) v e xs) (fun W D h hBD hd => h.put (Nat.le_trans hB hBD) hd) (fun W h => ⟨_, results_split _ _ _ _ _ _ h4 h5 h.c4 h.c5, _, rfl, h.r, h.hB⟩) Ds U hm he
theorem split_begins {w w1 w2 : World} (hb : Below ((w.alloc (.cells #[.slice none 0 0] 22)).alloc (.cells #[.int .i64 0] 24)).heap.size ((w.alloc (.cells #[.slice none 0 0] 22)).alloc (.cells #[.int .i64 0] 24)) w1) (h2 : w2 = w1.alloc (.cells #[.slice none 0 0] 22)) :
  RowS w w1.heap.size [w.heap.size, w.heap.size + 1] w2 w2 (.slice none 0 0) [] ∧ (w2.cell? ⟨w.heap.size, 0, none⟩ = some (.slice none 0 0) ∧ w2.frozen? ⟨w.heap.size, 0, none⟩ = false ∧ w2.cell? ⟨w.heap.size + 1, 0, none⟩ = some (.int .i64 0) ∧ w2.frozen? ⟨w.heap.size + 1, 0, none⟩ = false) ∧
   (w.heap.size + 2 ≤ w1.heap.size ∧ w2.heap.size = w1.heap.size + 1) := by
 have hz : ((w.alloc (.cells #[.slice none 0 0] 22)).alloc (.cells #[.int .i64 0] 24)).heap.size = w.heap.size + 2 := by simp
 have hB1 : Below w.heap.size w w1 := (((Below.refl _ w).alloc (Nat.le_refl _) _).alloc (by simp) _).trans (hb.mono (by simp; omega));have hs := hb.size;rw [hz] at hs
 have e4 : w2.heap[w.heap.size]? = some (.cells #[.slice none 0 0] 22 (0, 0)) := by
  rw [h2];refine (Below.heap_alloc w1 _ _ (by omega)).trans ((hb.block _ (by rw [hz]; omega)).trans ((Below.heap_alloc _ _ _ (by simp)).trans (World.alloc_heap_new w _)))
 have e5 : w2.heap[w.heap.size + 1]? = some (.cells #[.int .i64 0] 24 (0, 0)) := by
  rw [h2];refine (Below.heap_alloc w1 _ _ (by omega)).trans ((hb.block _ (by rw [hz]; omega)).trans ?_);have e := World.alloc_heap_new (w.alloc (.cells #[.slice none 0 0] 22)) (.cells #[.int .i64 0] 24);rw [World.size_alloc] at e;exact e
 have e6 : w2.heap[w1.heap.size]? = some (.cells #[.slice none 0 0] 22 (0, 0)) := by rw [h2]; exact World.alloc_heap_new w1 _
 have hz2 : w2.heap.size = w1.heap.size + 1 := by rw [h2]; simp
 refine ⟨⟨by simp [World.cell?, e6], by simp [World.frozen?, e6], Kd.R_nil _ _ _ _ _, by rw [h2]; exact hB1.alloc hB1.size _, Nat.le_refl _, KeepsB.refl _ _⟩, ⟨by simp [World.cell?, e4], by simp [World.frozen?, e4], by simp [World.cell?, e5], by simp [World.frozen?, e5]⟩, hs, hz2⟩
theorem parts_begins {W Wx wq : World} {x : S61} {st : Int} (h1 : Wx = W.alloc (.cells #[.int .i64 x.f0, .int .i64 x.f1, .int .i64 x.f2, .int .i64 x.f3] 61)) (h2 : wq = (Wx.alloc (.cells #[.int .i64 x.f0, .int .i64 x.f1, .int .i64 x.f2, .int .i64 x.f3] 61)).alloc (.cells #[.int .i64 st] 3)) :
  wq.heap[Wx.heap.size]? = some (.cells #[.int .i64 x.f0, .int .i64 x.f1, .int .i64 x.f2, .int .i64 x.f3] 61 (0, 0)) ∧ wq.heap[Wx.heap.size + 1]? = some (.cells #[.int .i64 st] 3 (0, 0)) ∧ Below W.heap.size W wq ∧ Wx.heap.size = W.heap.size + 1 ∧ wq.heap.size = W.heap.size + 3 := by
 have hz1 : Wx.heap.size = W.heap.size + 1 := by rw [h1]; simp
 refine ⟨?_, ?_, ?_, hz1, by rw [h2]; simp [hz1]⟩
 · rw [h2]; exact (Below.heap_alloc _ _ _ (by simp)).trans (World.alloc_heap_new Wx _)
 ·
  have e := World.alloc_heap_new (Wx.alloc (.cells #[.int .i64 x.f0, .int .i64 x.f1, .int .i64 x.f2, .int .i64 x.f3] 61)) (.cells #[.int .i64 st] 3);rw [World.size_alloc] at e;rw [h2]; exact e
 rw [h2, h1]; exact (((Below.refl _ W).alloc (Nat.le_refl _) _).alloc (by simp) _).alloc (by simp; omega) _
theorem split_walk (A0 : Option Addr) (c0 : Nat) (l : List S61) (st : Int) (w : World) (hr0 : Kd.C k61 w A0 l.length l) (hc0 : l.length ≤ c0) (hi : isL l = true) (hst : st = 0 ∨ st = 1) (r : List S61 × Int) (hr : splitN l st = r) :
  Calls Tryz.prog 74 #[.slice A0 l.length c0, .int .i64 st] w fun e w' => ∃ v0_ : Value, e = .returned (.tuple #[v0_, .int .i64 r.2]) ∧ Kd.R k61 61 w' w.heap.size (fun _ => True) v0_ r.1 ∧ Below w.heap.size w w' := by
 have H1 := hI (fun W hW => chart_Is.calls A0 c0 l true W (Kd.C_below hr0 hW) hc0 (by unfold chart_Is.f; rw [hi]));have HR0 := hI hr0;have HC0 := hI hc0;have HI := hI (isL_all hi);have hmax := Kd.C_max hr0;have HM := hI hmax;have HR := hI (show (if (splitL l st).length ≤ 65536 then (splitL l st, 0) else ([], 7)) = r by rw [← hr]; unfold splitN; rw [if_neg (show ¬ (isL l = false ∨ st < 0 ∨ 1 < st) by rw [hi]; rintro (h | h | h); exact absurd h (by decide); omega; omega)]);have d1 : decide (st < 0) = false := decide_eq_false (by omega);have d2 : decide (1 < st) = false := decide_eq_false (by omega);clear hr0 hc0 hi hr hmax hst;have hz1 := (zero_of_info (P := Tryz.prog) (t := 22) (v := .slice none 0 0) (n := 1) (by kernel_rfl)).1;have hz2 := (zero_of_info (P := Tryz.prog) (t := 61) (v := .agg #[.int .i64 0, .int .i64 0, .int .i64 0, .int .i64 0]) (n := 4) (by kernel_rfl)).1;refine (callsIn_wide (n := 9)).1 (callsIn_of_wp_marks Tryz.func74 rfl trivial (wpIn_wide.2 ?_) rfl);simp only [Tryz.ntmps74, List.size_toArray, List.length_cons, List.length_nil, Nat.reduceAdd, Nat.reduceSub, Array.replicate_succ, Array.replicate_zero, List.push_toArray, List.append_toArray, List.nil_append, List.cons_append];go_wp2_with fail
 refine (H1.out _ (((Below.refl _ w).alloc (Nat.le_refl _) _).alloc (by simp) _)).mono ?_;rintro e w1 ⟨rfl, hb⟩;go_wp2_with fail
 obtain ⟨w2, hw2⟩ : ∃ w2, w2 = w1.alloc (.cells #[.slice none 0 0] 22) := ⟨_, rfl⟩;obtain ⟨G1, ⟨G2, G3, G4, G5⟩, G6, G7⟩ := split_begins hb hw2;rw [← hw2];obtain ⟨o6, ho6⟩ : ∃ o6, o6 = w1.heap.size := ⟨_, rfl⟩;rw [← ho6] at G1 G6 G7 ⊢;have HG1 := hI G1;have HG2 := hI G2;have HG3 := hI G3;have HG4 := hI G4;have HG5 := hI G5;have HG6 := hI G6;have HG7 := hI G7;have HKS := hI (show ∀ k ∈ [w.heap.size, w.heap.size + 1], k < w2.heap.size from fun k hk => by simp at hk; omega);have HNK := hI (show o6 ∉ [w.heap.size, w.heap.size + 1] from fun hk => by simp at hk; omega);have HWB := hI (show w.heap.size ≤ o6 by omega);have HB3 := hI (show o6 < w2.heap.size by omega);clear hw2 ho6 hb G1 G2 G3 G4 G5 G6 G7 d1 d2 H1;refine (wpIn_wide (n := 9)).1 ?_
 refine wpIn_loop (fun a' W => ∃ (i : Nat) (v : Value) (Ds : List Nat) (u8 u24 u25 u26 u27 u28 u29 u38 : Value), i ≤ l.length ∧ RowS w o6 [w.heap.size, w.heap.size + 1] w2 W v (splitL (l.take i) st) ∧ (splitL (l.take i) st).length ≤ 65536 ∧ Marks w2.heap.size Ds W ∧
   a' = { tmps := #[Value.slice A0 l.length c0, Value.int IntKind.i64 st, undef, undef, Value.pointer (some { block := w.heap.size, off := 0 }), Value.pointer (some { block := w.heap.size + 1, off := 0 }), Value.pointer (some { block := o6, off := 0 }), undef, u8, undef, Value.slice A0 l.length c0,
     Value.bool true, Value.bool false, Value.bool false, Value.int IntKind.i64 st, Value.bool false, Value.bool false, Value.bool false, Value.int IntKind.i64 st, Value.bool false, Value.bool false,
     Value.slice A0 l.length c0, Value.int IntKind.i64 (l.length : Int), Value.int IntKind.i64 (i : Int), u24, u25, u26, u27, u28, u29, undef, undef, undef, undef, undef, undef, undef, undef, u38, undef], defers := Ds.map markOf })
  (fun a' _ => l.length - (intOf (a'.tmps.getD 23 undef)).toNat) ?_ ?_
 · exact ⟨0, _, [], _, _, _, _, _, _, _, _, Nat.zero_le _, HG1.out, by simp [splitL], ⟨List.nodup_nil, fun _ h => absurd h (by simp)⟩, rfl⟩
 rintro a' W ⟨i, v, Ds, u8, u24, u25, u26, u27, u28, u29, u38, hi, hv, hlen, hm, rfl⟩;refine wpIn_wide.2 ?_;by_cases hlt : i < l.length
 ·
  have p0 : (0 : Int) ≤ (i : Int) := by omega
  have p1 : (i : Int) < (l.length : Int) := by omega
  have d3 : decide ((i : Int) < (l.length : Int)) = true := decide_eq_true p1;have hwi : wrap64 ((i : Int) + 1) = ((i + 1 : Nat) : Int) := by have := HM.out; unfold wrap64; omega
  obtain ⟨ad, rfl, x0, x1, x2, x3⟩ := at_T61 HR0.out (i : Int) p0 p1;rw [rd_atS] at x0 x1 x2 x3;obtain ⟨x, hx⟩ : ∃ x, x = atS l i := ⟨_, rfl⟩;rw [← hx] at x0 x1 x2 x3;rw [Int.toNat_natCast] at x0 x1 x2 x3;have hxr : rightN x = true := by rw [hx, atS_get l i hlt]; exact HI.out.2.1 _ (List.getElem_mem hlt)
  replace x0 := (hv.hB.cell (World.block_lt_of_cell? _ _ x0)).trans x0;replace x1 := (hv.hB.cell (World.block_lt_of_cell? _ _ x1)).trans x1;replace x2 := (hv.hB.cell (World.block_lt_of_cell? _ _ x2)).trans x2;replace x3 := (hv.hB.cell (World.block_lt_of_cell? _ _ x3)).trans x3;have HXR := hI hxr;have HSU := hI (show splitL (l.take (i + 1)) st = splitL (l.take i) st ++ partsP x st by rw [splitL_succ l st i hlt, hx]);have HPR := hI (splitL_pre l st (i + 1));have HV := hI hv;have HLEN := hI hlen;have HMK := hI hm;have HLT := hI hlt;clear hx hxr hv hlen hm hlt hi;replace p0 := eq_true p0;replace p1 := eq_true p1;go_wp2_with fail
  obtain ⟨Wx, hWx⟩ : ∃ Wx, Wx = W.alloc (.cells #[.int .i64 x.f0, .int .i64 x.f1, .int .i64 x.f2, .int .i64 x.f3] 61) := ⟨_, rfl⟩;rw [← hWx];refine (parts_calls x st Wx).mono ?_;rintro e wq ⟨rfl, hwq⟩;obtain ⟨Q1, Q2, Q3, Q4, Q5⟩ := parts_begins hWx hwq;obtain ⟨Bx, hBx⟩ : ∃ Bx, Bx = Wx.heap.size := ⟨_, rfl⟩;rw [← hBx] at Q1 Q2 Q4 ⊢;have HQ1 := hI Q1;have HQ2 := hI Q2;have HQ3 := hI Q3;have HQ4 := hI Q4;have HQ5 := hI Q5;have HOWB := hI (show ∀ k, v.ownBlock = some k → k ≠ Bx ∧ k ≠ Bx + 1 from fun k hk => by have := (HV.out.own_cells k hk).2.1; omega);have HVQ := hI (RowS.below HV.out HKS.out Q3);have HMQ := hI (Marks.kept HMK.out (fun D hD h => (Q3.block D (HMK.out.lt D hD)).trans h));clear hWx hwq hBx Q1 Q2 Q3 Q4 Q5 x0 x1 x2 x3;go_wp2_with fail
  refine (wpIn_wide (n := 9)).1 ?_;obtain ⟨e0, e1, e2, e3⟩ := box_cells HQ1.out;have hWs := HV.out.hS
  refine range_parts (n := 9) Bx (Bx + 1) x st HXR.out (by omega) (by decide) rfl e0 e1 e2 e3 (by simp [World.frozen?, HQ1.out]) (by simp [World.cell?, HQ2.out])
   (fun pre U => ∃ v, RowS w o6 [w.heap.size, w.heap.size + 1] w2 U v (splitL (l.take i) st ++ pre) ∧ (splitL (l.take i) st ++ pre).length ≤ 65536 ∧ (∀ k, v.ownBlock = some k → k ≠ Bx ∧ k ≠ Bx + 1) ∧ Marks w2.heap.size Ds U)
   (fun c pre U => c = .ret ∧ EndS w w.heap.size (w.heap.size + 1) (.slice none 0 0) 7 [] U ∧ Marks w2.heap.size Ds U ∧ 65536 < (splitL (l.take i) st ++ pre).length)
   ?hI ?hIx ?h0 ?h0s ?a1 ?assign ?body ?done ?stop
  all_goals clear e0 e1 e2 e3
  case hI =>
   rintro pre A U row ⟨v', hv', hl', ho', hm'⟩ hg hr;have h5 := HQ5.out;refine ⟨v', hv'.kept HWB.out HB3.out HKS.out hg (fun r e => ⟨by have := (hr r e).1; omega, (hr r e).2⟩), hl', ho', hm'.kept (fun D hD h => (hg.block D (blk_lt h) (fun e => ?_)).trans h)⟩;have q1 := (hr D e.symm).1;have q2 := HMK.out.lt D hD;omega
  case hIx =>
   rintro c pre A U row ⟨rfl, he', hm', hl'⟩ hg hr;have h5 := HQ5.out;have h6 := HV.out.hB.size;refine ⟨rfl, he'.moved hg (fun r e => ⟨by have := (hr r e).1; omega, (hr r e).2⟩), hm'.kept (fun D hD h => (hg.block D (blk_lt h) (fun e => ?_)).trans h), hl'⟩;have q1 := (hr D e.symm).1;have q2 := HMK.out.lt D hD;omega
  case h0 => exact ⟨v, by rw [List.append_nil]; exact HVQ.out, by rw [List.append_nil]; exact HLEN.out, HOWB.out, HMQ.out⟩
  case h0s =>
   intro V hV;have h4 := HQ4.out;have hb := (HQ3.out.grown hV HQ3.out.size (fun k e => by cases e)).setCell (show W.heap.size ≤ (⟨Bx, 3, none⟩ : Addr).block by show _ ≤ Bx; omega) (.int .i64 st);exact ⟨v, by rw [List.append_nil]; exact RowS.below HV.out HKS.out hb, by rw [List.append_nil]; exact HLEN.out, HOWB.out, HMK.out.kept (fun D hD h => (hb.block D (HMK.out.lt D hD)).trans h)⟩
  case assign =>
   intro l' y U b K hb hK;have HB := hI hb;clear hb;dsimp only [encP]
   gi_wp2
   rw [HB.out];exact hK
  case body =>
   rintro l' pre y U b ⟨v', hv', hl', ho', hm'⟩ hb hbox;obtain ⟨Av, kv, rfl⟩ := Kd.R_slice hv'.r;obtain ⟨ys, hys⟩ : ∃ ys, ys = splitL (l.take i) st ++ pre := ⟨_, rfl⟩;rw [← hys] at hv' hl' ho';have cO := hv'.c;have zO := hv'.z;have c4 := (hv'.hK.cell (p := ⟨w.heap.size, 0, none⟩) (by simp)).trans HG2.out;have z4 := (frozen_of (a := ⟨w.heap.size, 0, none⟩) (hv'.hK w.heap.size (by simp))).trans HG3.out;have c5 := (hv'.hK.cell (p := ⟨w.heap.size + 1, 0, none⟩) (by simp)).trans HG4.out;have z5 := (frozen_of (a := ⟨w.heap.size + 1, 0, none⟩) (hv'.hK (w.heap.size + 1) (by simp))).trans HG5.out;obtain ⟨y0, y1, y2, y3⟩ := box_cells hbox;have HV1 := hI hv';have HO1 := hI ho';have HBU := hI (show Bx + 1 < U.heap.size by have := blk_lt hbox; have := HQ5.out; have := HQ4.out; omega);have HL1 := hI hl';have HM1 := hI hm';have HBB := hI hb;have HYS := hI hys;clear hv' hl' ho' hm' hb hys hbox;by_cases hfull : ys.length = 65536
   ·
    have d4 : ((ys.length : Int) == 65536) = true := by simp; omega
    have E := ends_S (e := 7) (u := .slice none 0 0) (ys := []) HV1.out (Nat.le_refl _) (Nat.le_succ _) (by omega) (HKS.out _ (by simp)) (HKS.out _ (by simp)) c4 c5 (Kd.R_nil _ _ _ _ _);have HE := hI E;have HF := hI hfull;clear E hfull;gi_wp2
    have h5 := HQ5.out;have h6 := HG6.out;have h7 := HG7.out;have h8 := HV.out.hS;refine ⟨⟨by simp, fun k o hk ho hn => (HE.out.2 k (by omega) (by omega)).trans ho⟩, rfl, HE.out.1, HM1.out.kept (fun D hD h => (HE.out.2 D (by have := (HM1.out.2 D hD).1; omega) (by have := (HM1.out.2 D hD).1; omega)).trans h), ?_⟩;rw [← List.append_assoc, ← HYS.out, List.length_append, HF.out];simp
   have d4 : ((ys.length : Int) == 65536) = false := by simp; omega
   have HF := hI (show ys.length + 1 ≤ 65536 by have := HL1.out; omega);clear hfull c4 z4 c5 z5;gi_wp2_with (gi_at_builtin; go_loud (refine append_in (by kernel_rfl) (by rfl) (?_ : if _ then _ else _); refine Kd.R_append_step k61 (w0 := w) w.heap.size (by rfl) (.tmp 34) (.tmp 36) 22 61 (.agg #[(.int .i64 0), (.int .i64 0), (.int .i64 0), (.int .i64 0)]) 32 rfl Tryz.underlying22 info61 rfl (by decide) (by decide) _ ys y [.int .i64 y.f0, .int .i64 y.f1, .int .i64 y.f2, .int .i64 y.f3] (fun k => w2.heap.size ≤ k) (fun _ => False) rfl rfl (k61_mkM _ _ _ y) (fun _ hk => hk.elim) (fun k hk => Nat.le_trans HV1.out.hS hk) HV1.out.r HV1.out.hB HV1.out.hB.size (span_bytesS (by have := HF.out; omega)) ?_))
   intro v1 u2 ho hb hg hat;obtain ⟨A1, k1, rfl⟩ := Kd.R_slice ho;have eL : (ys ++ [y]).length = ys.length + 1 := by simp
   rw [eL] at ho hat ⊢;obtain ⟨c1, z1, G1, G2, G3⟩ := HV1.out.grew HWB.out HB3.out HKS.out HNK.out ho hb hg;have HGR1 := hI G1;have HGR2 := hI G2;have HGR3 := hI G3;have HSZ := hI hg.size
   have HOW := hI (show ∀ k, (Value.slice A1 (ys.length + 1) k1).ownBlock = some k → k ≠ Bx ∧ k ≠ Bx + 1 from fun k hk => by
    rcases hat with hat | ⟨b', hb', hle⟩
    · exact HO1.out k (by rw [← hat]; exact hk)
    rw [hb'] at hk;injection hk with hk
    have := HBU.out;omega)
   have HKB := hI (show ∀ k ∈ [Bx, Bx + 1], u2.heap[k]? = U.heap[k]? from fun k hk => hg.block k (by have := HBU.out; simp at hk; omega) (fun e => by have := HO1.out k e.symm; simp at hk; omega));clear ho hb hg hat G1 G2 G3 cO zO y0 y1 y2 y3 eL;gi_wp2
   have h3 := HB3.out;have h4 := HQ4.out;have h5 := HQ5.out;have h8 := HV.out.hS;have hsz := HSZ.out;refine ⟨RowS.keepsFrom (B := o6) (by omega) HGR3.out (by simpa using hsz), fun k hk => (Below.heap_setCell _ _ _ k (by simp at hk; show k ≠ o6; omega)).trans (HKB.out k hk), _, ?_, ?_, HOW.out, ?_⟩
   · rw [← List.append_assoc, ← HYS.out]; exact HGR1.out
   · rw [← List.append_assoc, ← HYS.out, List.length_append]; exact HF.out
   exact HM1.out.kept (fun D hD h => HGR3.out D _ h rfl (by have := (HM1.out.2 D hD).1; omega))
  case done =>
   rintro D U hD ⟨v', hv', hl', ho', hm'⟩ hdef;rw [← HSU.out] at hv' hl';have h4 := HQ4.out;have h5 := HQ5.out;have h8 := HV.out.hS;have HMM := hI (hm'.cons HMK.out.lt (by omega) (by omega) hdef);have HV2 := hI hv';have HL2 := hI hl';have HO2 := hI ho';clear hv' hl' ho' hm' hdef hD h4 h5 h8;go_wp2;rw [hwi];exact ⟨⟨i + 1, v', D :: Ds, _, _, _, _, _, _, _, _, HLT.out, HV2.out, HL2.out, HMM.out, rfl⟩, less_step (by decide) HLT.out⟩
  case stop =>
   rintro D c pre t U hD ht ⟨rfl, he', hm', hl'⟩ hdef;have h4 := HQ4.out;have h5 := HQ5.out;have h8 := HV.out.hS;have h9 := HG6.out;have h10 := HG7.out
   have hbig : ¬ (splitL l st).length ≤ 65536 := fun hle => by
    have q := HPR.out;rw [HSU.out, ← ht] at q;rw [List.length_append] at q hl';rw [List.length_append] at q;omega
   have HRE := hI (show r = ([], 7) by rw [← HR.out, if_neg hbig]);have HMM := hI (hm'.cons HMK.out.lt (by omega) (by omega) hdef);have HE := hI he';have HWL := hI (show w.heap.size ≤ w2.heap.size by omega);clear he' hm' hl' hdef hD ht h4 h5 h8 h9 h10 hbig;refine wpIn_wide.2 ?_;go_wp2;exact split_leaves rfl rfl HWL.out HMM.out HE.out HRE.out
 have hie : i = l.length := by omega
 subst hie;rw [List.take_length] at hv hlen;have d3 : decide ((l.length : Int) < (l.length : Int)) = false := decide_eq_false (by omega);have HRE := hI (show r = (splitL l st, 0) by rw [← HR.out, if_pos hlen]);obtain ⟨ys, hys⟩ : ∃ ys, ys = splitL l st := ⟨_, rfl⟩;rw [← hys] at hv HRE;obtain ⟨Av, kv, rfl⟩ := Kd.R_slice hv.r;have cO := hv.c;have c4 := (hv.hK.cell (p := ⟨w.heap.size, 0, none⟩) (by simp)).trans HG2.out;have z4 := (frozen_of (a := ⟨w.heap.size, 0, none⟩) (hv.hK w.heap.size (by simp))).trans HG3.out;have c5 := (hv.hK.cell (p := ⟨w.heap.size + 1, 0, none⟩) (by simp)).trans HG4.out;have z5 := (frozen_of (a := ⟨w.heap.size + 1, 0, none⟩) (hv.hK (w.heap.size + 1) (by simp))).trans HG5.out;have E := ends_S (e := 0) hv (Nat.le_refl _) (Nat.le_succ _) (by omega) (HKS.out _ (by simp)) (HKS.out _ (by simp)) c4 c5 hv.r;have h9 := HG6.out;have h10 := HG7.out;have HE := hI E.1;have HMM := hI (hm.kept (fun D hD h => (E.2 D (by have := (hm.2 D hD).1; omega) (by have := (hm.2 D hD).1; omega)).trans h));have HWL := hI (show w.heap.size ≤ w2.heap.size by omega);clear E hv hlen hm hys h9 h10 hlt hi;go_wp2;exact split_leaves rfl rfl HWL.out HMM.out HE.out HRE.out
theorem split_arg (A0 : Option Addr) (c0 : Nat) (l : List S61) (st : Int) (w : World) (hr0 : Kd.C k61 w A0 l.length l) (hc0 : l.length ≤ c0) (hbad : isL l = false ∨ st < 0 ∨ 1 < st) :
  Calls Tryz.prog 74 #[.slice A0 l.length c0, .int .i64 st] w fun e w' => ∃ v0_ : Value, e = .returned (.tuple #[v0_, .int .i64 1]) ∧ Kd.R k61 61 w' w.heap.size (fun _ => True) v0_ [] ∧ Below w.heap.size w w' := by
 obtain ⟨z, hz⟩ : ∃ z, z = isL l := ⟨_, rfl⟩;have H1 := hI (fun W hW => chart_Is.calls A0 c0 l z W (Kd.C_below hr0 hW) hc0 (by unfold chart_Is.f; rw [hz]));have hq : ∃ q1 q2 : Bool, decide (st < 0) = q1 ∧ decide (1 < st) = q2 ∧ (z = false ∨ q1 = true ∨ q2 = true) := ⟨_, _, rfl, rfl, by rw [hz]; simpa using hbad⟩;obtain ⟨q1, q2, d1, d2, hq⟩ := hq;have hz1 := (zero_of_info (P := Tryz.prog) (t := 22) (v := .slice none 0 0) (n := 1) (by kernel_rfl)).1;clear hbad hz hr0 hc0;cases z <;> cases q1 <;> cases q2 <;> first | exact absurd hq (by decide) | skip
 all_goals
  clear hq;refine (callsIn_wide (n := 9)).1 (callsIn_of_wp_marks Tryz.func74 rfl trivial (wpIn_wide.2 ?_) rfl);simp only [Tryz.ntmps74, List.size_toArray, List.length_cons, List.length_nil, Nat.reduceAdd, Nat.reduceSub, Array.replicate_succ, Array.replicate_zero, List.push_toArray, List.append_toArray, List.nil_append, List.cons_append];go_wp2_with fail
  refine (H1.out _ (((Below.refl _ w).alloc (Nat.le_refl _) _).alloc (by simp) _)).mono ?_;rintro e w1 ⟨rfl, hb⟩;obtain ⟨g1, ⟨g2, g3, g4, g5⟩, g6, g7⟩ := split_begins hb rfl;have hz : ((w.alloc (.cells #[.slice none 0 0] 22)).alloc (.cells #[.int .i64 0] 24)).heap.size = w.heap.size + 2 := by simp
  have a4 : (w1.alloc (.cells #[.slice none 0 0] 22)).heap[w.heap.size]? = w1.heap[w.heap.size]? := Below.heap_alloc w1 _ _ (by omega);have a5 : (w1.alloc (.cells #[.slice none 0 0] 22)).heap[w.heap.size + 1]? = w1.heap[w.heap.size + 1]? := Below.heap_alloc w1 _ _ (by omega);have c4 := (cell_of (a := ⟨w.heap.size, 0, none⟩) a4).symm.trans g2;have z4 := (frozen_of (a := ⟨w.heap.size, 0, none⟩) a4).symm.trans g3;have c5 := (cell_of (a := ⟨w.heap.size + 1, 0, none⟩) a5).symm.trans g4;have z5 := (frozen_of (a := ⟨w.heap.size + 1, 0, none⟩) a5).symm.trans g5;have hB1 : Below w.heap.size w w1 := (((Below.refl _ w).alloc (Nat.le_refl _) _).alloc (by simp) _).trans (hb.mono (by simp; omega))
  have HE := hI (show EndS w w.heap.size (w.heap.size + 1) (.slice none 0 0) 1 [] ((w1.setCell ⟨w.heap.size, 0, none⟩ (.slice none 0 0)).setCell ⟨w.heap.size + 1, 0, none⟩ (.int .i64 1)) from by
   have hb5 : (w1.setCell ⟨w.heap.size, 0, none⟩ (.slice none 0 0)).heap[w.heap.size + 1]? = w1.heap[w.heap.size + 1]? := Below.heap_setCell w1 _ _ _ (show w.heap.size + 1 ≠ w.heap.size by omega);have hb4 : ((w1.setCell ⟨w.heap.size, 0, none⟩ (.slice none 0 0)).setCell ⟨w.heap.size + 1, 0, none⟩ (.int .i64 1)).heap[w.heap.size]? = (w1.setCell ⟨w.heap.size, 0, none⟩ (.slice none 0 0)).heap[w.heap.size]? := Below.heap_setCell _ _ _ _ (show w.heap.size ≠ w.heap.size + 1 by omega);exact ⟨(cell_of hb4).trans (World.cell?_setCell_same _ _ _ c4), World.cell?_setCell_same _ _ _ ((cell_of hb5).trans c5), Kd.R_nil _ _ _ _ _, (hB1.setCell (Nat.le_refl _) _).setCell (Nat.le_succ _) _⟩)
  clear hb g1 g2 g3 g4 g5 g6 g7 hz a4 a5 hB1;go_wp2;exact split_leaves (Ds := []) (r := ([], 1)) rfl rfl (Nat.le_refl _) ⟨List.nodup_nil, fun _ h => absurd h (by simp)⟩ HE.out rfl
def group_Split.f (l0 : List S61) (a1 : Int) : Option (List S61 × Int) := some (splitN l0 a1)
theorem group_Split.calls (A0 : Option Addr) (c0 : Nat) (l0 : List S61) (a1 : Int) (r1 : List S61) (r2 : Int) (w : World) (hr0 : Kd.C k61 w A0 l0.length l0) (hc0 : l0.length ≤ c0) (h : group_Split.f l0 a1 = some (r1, r2)) :
  Calls Tryz.prog 74 #[.slice A0 l0.length c0, .int .i64 a1] w fun e w' => ∃ v0_ : Value, e = .returned (.tuple #[v0_, .int .i64 r2]) ∧ Kd.R k61 61 w' w.heap.size (fun _ => True) v0_ r1 ∧ Below w.heap.size w w' := by
 have hr := Option.some.inj h;by_cases hbad : isL l0 = false ∨ a1 < 0 ∨ 1 < a1
 ·
  unfold splitN at hr;rw [if_pos hbad] at hr;obtain ⟨rfl, rfl⟩ := Prod.mk.inj hr;exact split_arg A0 c0 l0 a1 w hr0 hc0 hbad
 have hi : isL l0 = true := by cases hh : isL l0 with | true => rfl | false => exact absurd (.inl hh) hbad
 exact split_walk A0 c0 l0 a1 w hr0 hc0 hi (by omega) (r1, r2) hr
end Go.Proofs.YtejdflndgnpkcaaGreat.P
end
section
namespace Go.Proofs.YtejdflndgnpkcaaGreat.P
open Go.RowKit PW PL PM
attribute [local go_sem] max2_int min2_int max_two min_two
def headB (f : Int) (n : Int) : List UInt8 := bytesN f 2 ++ (bytesN 0 2 ++ (bytesN (16 + 12 * n) 4 ++ (bytesN 0 4 ++ (bytesN n 4 ++ []))))
def spanB (y : S61) : List UInt8 := bytesN y.f0 4 ++ (bytesN y.f1 4 ++ (bytesN y.f2 4 ++ []))
def spansB (l : List S61) : List UInt8 := l.flatMap spanB
def putG (l : List S61) (f : Int) : ByteArray × Int :=
 if f ≠ 12 ∧ f ≠ 13 then (⟨#[]⟩, 1)
 else if (splitN l (13 - f)).2 ≠ 0 then (⟨#[]⟩, (splitN l (13 - f)).2)
 else (⟨(headB f ((splitN l (13 - f)).1.length : Int) ++ spansB (splitN l (13 - f)).1).toArray⟩, 0)
theorem fits4 {v : Int} (h0 : 0 ≤ v) (h1 : v ≤ 4294967295) : fitsN v 4 = true := by
 unfold fitsN;have e : (256 : Int) ^ (4 : Int).natAbs = 4294967296 := by decide
 rw [if_neg (by decide), e];exact decide_eq_true (by omega)
theorem headB_put {f n : Int} (h0 : 0 ≤ f) (h1 : f ≤ 65535) (h2 : 0 ≤ n) (h3 : n ≤ 65536) : bin_Put.f [2, 2, 4, 4, 4] [f, 0, 16 + 12 * n, 0, n] = some (⟨(headB f n).toArray⟩, 0) := by
  unfold bin_Put.f;rw [if_pos (by decide)];congr 1
  unfold putN
  rw [if_neg (by rintro (h | h); · exact absurd h (by decide)
                 · exact h rfl)]
  simp only [puts];rw [if_pos (fits2 h0 h1), if_pos (fits2 (by omega) (by omega)), if_pos (fits4 (by omega) (by omega)), if_pos (fits4 (by omega) (by omega)), if_pos (fits4 h2 (by omega))];rfl
theorem spanB_put {a b c : Int} (h0 : 0 ≤ a) (h1 : a ≤ 1114111) (h2 : 0 ≤ b) (h3 : b ≤ 1114111) (h4 : 0 ≤ c) (h5 : c ≤ 65535) : bin_Put.f [4, 4, 4] [a, b, c] = some (⟨(bytesN a 4 ++ (bytesN b 4 ++ (bytesN c 4 ++ []))).toArray⟩, 0) := by
  unfold bin_Put.f;rw [if_pos (by decide)];congr 1
  unfold putN
  rw [if_neg (by rintro (h | h); · exact absurd h (by decide)
                 · exact h rfl)]
  simp only [puts];rw [if_pos (fits4 h0 (by omega)), if_pos (fits4 h2 (by omega)), if_pos (fits4 h4 (by omega))];rfl
theorem headB_length (f n : Int) : (headB f n).length = 16 := by
 unfold headB;simp [bytesN_length]
theorem spanB_length (y : S61) : (spanB y).length = 12 := by
 unfold spanB;simp [bytesN_length]
theorem spansB_length (l : List S61) : (spansB l).length = 12 * l.length := by
 unfold spansB;induction l with
 | nil => rfl
 | cons x r ih => rw [List.flatMap_cons, List.length_append, ih, spanB_length, List.length_cons]; omega
theorem spansB_succ (l : List S61) (i : Nat) (h : i < l.length) : spansB (l.take (i + 1)) = spansB (l.take i) ++ spanB (atS l i) := by
 unfold spansB;rw [List.take_add_one, List.getElem?_eq_getElem h, List.flatMap_append, atS_get l i h];simp
theorem parts_small {x : S61} (hx : rightN x = true) (st : Int) : ∀ y ∈ partsP x st, 0 ≤ y.f0 ∧ y.f0 ≤ y.f1 ∧ y.f1 ≤ 1114111 ∧ 0 ≤ y.f2 ∧ y.f2 ≤ 65535 := by
 obtain ⟨a0, a1, a2, a3, a4, a5, a6⟩ := (right_iff x).1 hx;intro y hy;unfold partsP at hy;split at hy
 ·
  split at hy
  ·
   obtain rfl := List.mem_singleton.1 hy;exact ⟨a0, a1, a2, a4, a5⟩
  simp at hy
 unfold partsL at hy;obtain ⟨hm, hp⟩ := List.mem_filter.1 hy;obtain ⟨i, hi, rfl⟩ := List.mem_map.1 hm;have hi := List.mem_range.1 hi;have hp := of_decide_eq_true hp;unfold partP at hp ⊢;dsimp only at hp ⊢
 rcases a3 with h3 | h3
 · rw [h3, Int.zero_mul] at hp a6 ⊢; omega
 rw [h3, Int.one_mul] at hp a6 ⊢; omega
theorem split_small {l : List S61} (hl : ∀ x ∈ l, rightN x = true) (st : Int) : ∀ y ∈ splitL l st, 0 ≤ y.f0 ∧ y.f0 ≤ y.f1 ∧ y.f1 ≤ 1114111 ∧ 0 ≤ y.f2 ∧ y.f2 ≤ 65535 := by
 intro y hy;unfold splitL at hy;obtain ⟨x, hx, hy⟩ := List.mem_flatMap.1 hy;exact parts_small (hl x hx) st y hy
theorem splitN_ok {l : List S61} {st : Int} {r : List S61} {e : Int} (h : splitN l st = (r, e)) : r.length ≤ 65536 ∧ (∀ y ∈ r, 0 ≤ y.f0 ∧ y.f0 ≤ y.f1 ∧ y.f1 ≤ 1114111 ∧ 0 ≤ y.f2 ∧ y.f2 ≤ 65535) ∧ (e ≠ 0 → r = []) := by
 unfold splitN at h;split at h
 ·
  obtain ⟨rfl, rfl⟩ := Prod.mk.inj h;exact ⟨Nat.zero_le _, fun y hy => absurd hy (by simp), fun _ => rfl⟩
 rename_i hn
 split at h
 ·
  rename_i hle
  obtain ⟨rfl, rfl⟩ := Prod.mk.inj h;have hi : isL l = true := by cases hh : isL l with | true => rfl | false => exact absurd (.inl hh) hn
  exact ⟨hle, split_small (isL_all hi).2.1 st, fun h => absurd rfl h⟩
 obtain ⟨rfl, rfl⟩ := Prod.mk.inj h;exact ⟨Nat.zero_le _, fun y hy => absurd hy (by simp), fun _ => rfl⟩
theorem group_put_arg (A0 : Option Addr) (c0 : Nat) (l : List S61) (f : Int) (w : World) (hf : f ≠ 12 ∧ f ≠ 13) :
  Calls Tryz.prog 48 #[.slice A0 l.length c0, .int .i64 f] w fun e w' => e = .returned (.tuple #[.string ⟨#[]⟩, .int .i64 1]) ∧ Below w.heap.size w w' := by
 have a1 : (f != 12) = true := by simp; exact hf.1
 have a2 : (f != 13) = true := by simp; exact hf.2
 go_enter Tryz.func48, Tryz.ntmps48;go_wp2;go_ret2;exact ⟨rfl, Below.refl _ _⟩
theorem group_put_walk (A0 : Option Addr) (c0 : Nat) (l : List S61) (f : Int) (w : World) (hr0 : Kd.C k61 w A0 l.length l) (hc0 : l.length ≤ c0) (hf : f = 12 ∨ f = 13) (r : ByteArray × Int) (hr : putG l f = r) :
  Calls Tryz.prog 48 #[.slice A0 l.length c0, .int .i64 f] w fun e w' => e = .returned (.tuple #[.string r.1, .int .i64 r.2]) ∧ Below w.heap.size w w' := by
 have hz := (zero_of_info (P := Tryz.prog) (t := 83) (v := .agg #[.pointer none, .slice none 0 0]) (n := 2) (by kernel_rfl)).1;have hz2 := (zero_of_info (P := Tryz.prog) (t := 61) (v := .agg #[.int .i64 0, .int .i64 0, .int .i64 0, .int .i64 0]) (n := 4) (by kernel_rfl)).1;obtain ⟨L, e, hs⟩ : ∃ L e, splitN l (13 - f) = (L, e) := ⟨_, _, rfl⟩;have HS := hI (splitN_ok hs);have hw13 : wrap64 (13 - f) = 13 - f := by unfold wrap64; omega
 have H1 := hI (group_Split.calls A0 c0 l (13 - f) L e w hr0 hc0 (by unfold group_Split.f; rw [hs]));have HF := hI hf;have hq : ∃ q : Bool, (f != 12) = q ∧ (q = true → (f != 13) = false) := ⟨_, rfl, fun hq => by simp at hq ⊢; omega⟩;obtain ⟨q, a1, a2⟩ := hq
 have HR := hI (show (if e ≠ 0 then (⟨#[]⟩, e) else (⟨(headB f (L.length : Int) ++ spansB L).toArray⟩, 0)) = r by
  rw [← hr]; unfold putG;rw [if_neg (show ¬ (f ≠ 12 ∧ f ≠ 13) by omega), hs])
 clear hr0 hc0 hf hr hs;cases q
 case' true => have a3 := a2 rfl
 all_goals
  clear a2;by_cases he : e = 0
  case neg =>
   have d1 : (e != 0) = true := by simpa using he
   have HRE := hI (show r = (⟨#[]⟩, e) by rw [← HR.out, if_pos he]);clear he;go_enter Tryz.func48, Tryz.ntmps48;go_wp2_with fail
   refine H1.out.mono ?_;rintro x w1 ⟨v, rfl, hr, hb⟩;have HB1 := hI hb;clear hr hb;go_wp2;go_ret2;rw [HRE.out];exact ⟨rfl, HB1.out⟩
  subst he;have HRE := hI (show r = (⟨(headB f (L.length : Int) ++ spansB L).toArray⟩, 0) by rw [← HR.out, if_neg (by decide)]);obtain ⟨n, hn⟩ : ∃ n, n = L.length := ⟨_, rfl⟩;rw [← hn] at HRE;have HN := hI hn;have HN2 := hI (show n ≤ 65536 by rw [hn]; exact HS.out.1);have w1_ : wrap64 (12 * (n : Int)) = 12 * (n : Int) := by have := HN2.out; unfold wrap64; omega
  have w2_ : wrap64 (16 + 12 * (n : Int)) = 16 + 12 * (n : Int) := by have := HN2.out; unfold wrap64; omega
  clear HR;go_enter Tryz.func48, Tryz.ntmps48;go_wp2_with fail
  refine H1.out.mono ?_;rintro x w1 ⟨v, rfl, hr, hb⟩;obtain ⟨A1, k1, rfl⟩ := Kd.R_slice hr;obtain ⟨_, _, e0, hk1, C1⟩ := Kd.R_reads hr;injection e0 with e1 e2 e3
  subst e1;subst e3;rw [← hn];have HB1 := hI hb;have HC := hI C1;clear hr hb C1 hk1 e2 H1 hn;go_wp2_with fail
  have e0 : (w1.alloc (.cells #[.pointer none, .slice none 0 0] 83)).heap[w1.heap.size]? = some (.cells #[.pointer none, .slice none 0 0] 83 (0, 0)) := (MapKept.heap_alloc w1 _).1;have HP0 := hI (show PutW w1 w1.heap.size (w1.alloc (.cells #[.pointer none, .slice none 0 0] 83)) [] from ⟨.inl ⟨Nat.le_refl _, _, e0, World.ownsRow_nil _ _ _ _, by simp [Value.ownBlock]⟩, fun _ => ⟨_, e0⟩, (Below.refl _ _).alloc (Nat.le_refl _) _⟩);obtain ⟨w3, hw3⟩ : ∃ w3, w3 = w1.alloc (.cells #[.pointer none, .slice none 0 0] 83) := ⟨_, rfl⟩;have hsz3 : w1.heap.size + 1 = w3.heap.size := by rw [hw3]; simp
  obtain ⟨g, hg⟩ : ∃ g, g = w1.heap.size := ⟨_, rfl⟩;rw [hsz3, ← hw3, ← hg];rw [← hw3, ← hg] at HP0;have D1 := Kd.C_alloc (lit_C w3 [2, 2, 4, 4, 4] (by decide)) (.cells (([f, 0, 16 + 12 * (n : Int), 0, (n : Int)] : List Int).map (Value.int .i64)).toArray 3);have D2 := lit_C (w3.alloc (.cells (([2, 2, 4, 4, 4] : List Int).map (Value.int .i64)).toArray 3)) [f, 0, 16 + 12 * (n : Int), 0, (n : Int)] (by simp [maxLen]);rw [World.size_alloc] at D2;refine (bin_Put.calls _ 5 [2, 2, 4, 4, 4] _ 5 [f, 0, 16 + 12 * (n : Int), 0, (n : Int)] _ _ _ D1 (Nat.le_refl _) D2 (Nat.le_refl _) (headB_put (by have := HF.out; omega) (by have := HF.out; omega) (Int.natCast_nonneg n) (by have := HN2.out; omega))).mono ?_;rintro e w4 ⟨rfl, hb⟩;have hb3 := (((Below.refl w3.heap.size w3).alloc (Nat.le_refl _) (.cells (([2, 2, 4, 4, 4] : List Int).map (Value.int .i64)).toArray 3)).alloc (by simp) (.cells (([f, 0, 16 + 12 * (n : Int), 0, (n : Int)] : List Int).map (Value.int .i64)).toArray 3));have HP1 := hI (HP0.out.below (hb3.trans (hb.mono hb3.size)));obtain ⟨H, hH⟩ : ∃ H : ByteArray, H = ⟨(headB f (n : Int)).toArray⟩ := ⟨_, rfl⟩;have HHS := hI (show H.size = 16 by rw [hH]; simp [ByteArray.size, headB_length]);have HHL := hI (show H.data.toList = headB f (n : Int) by rw [hH]);rw [← hH];clear D1 D2 hb hb3 hw3 hg hsz3 e0 hH HP0;go_wp2_with fail
  refine (writeString_calls w1.heap.size g _ H _ HP1.out.b (by rw [HHS.out]; decide) (by rw [HHS.out]; simp [Lib.byteCells]) HP1.out.hB.size).mono ?_;rintro e w5 ⟨rfl, hbb, hb, _⟩
  have HP2 := hI (show PutW w1 g w5 (headB f (n : Int)) by
   have := HP1.out.wroteS H (by rw [HHS.out]; decide) hbb hb;rwa [HHL.out, List.nil_append] at this)
  clear hbb hb HP1;go_wp2_with fail
  go_loopw [46, 6] (fun v46 v6 wr => ∃ (i : Nat), i ≤ n ∧ v46 = .int .i64 (i : Int) ∧ v6 = .int .i64 0 ∧ Aside0 (PutW w1 g wr (headB f (n : Int) ++ spansB (L.take i)))) (fun v46 _ _ => n - (intOf v46).toNat)
  case atStart => exact ⟨0, Nat.zero_le _, rfl, rfl, ⟨by have := HP2.out; simpa [spansB] using this⟩⟩
  case round =>
   obtain ⟨i, hi, rfl, rfl, HW⟩ := hrel;by_cases hlt : i < n
   ·
    have p0 : (0 : Int) ≤ (i : Int) := by omega
    have p1 : (i : Int) < (n : Int) := by omega
    have d3 : decide ((i : Int) < (n : Int)) = true := decide_eq_true p1;have hwi : wrap64 ((i : Int) + 1) = ((i + 1 : Nat) : Int) := by have := HN2.out; unfold wrap64; omega
    have hC := HC.out;have hil : i < L.length := by rw [← HN.out]; exact hlt
    obtain ⟨ad, rfl, x0, x1, x2, x3⟩ := at_T61 hC (i : Int) p0 (by have := HN.out; omega);rw [rd_atS] at x0 x1 x2 x3;have HSM := hI (HS.out.2.1 (atS L i) (by rw [atS_get L i hil]; exact List.getElem_mem hil));have hsu := spansB_succ L i hil;obtain ⟨x, hx⟩ : ∃ x, x = atS L i := ⟨_, rfl⟩;rw [← hx] at x0 x1 x2 x3 HSM hsu;rw [Int.toNat_natCast] at x0 x1 x2 x3;replace x0 := (HW.out.hB.cell (World.block_lt_of_cell? _ _ x0)).trans x0;replace x1 := (HW.out.hB.cell (World.block_lt_of_cell? _ _ x1)).trans x1;replace x2 := (HW.out.hB.cell (World.block_lt_of_cell? _ _ x2)).trans x2;replace x3 := (HW.out.hB.cell (World.block_lt_of_cell? _ _ x3)).trans x3;have HSU := hI hsu;have HLT := hI hlt;clear hx hsu hC hil hlt hi;replace p0 := eq_true p0;replace p1 := eq_true p1;go_wp2_with fail
    obtain ⟨wx, hwx⟩ : ∃ wx, wx = wr.alloc (.cells #[.int .i64 x.f0, .int .i64 x.f1, .int .i64 x.f2, .int .i64 x.f3] 61) := ⟨_, rfl⟩;have hbx : Below wr.heap.size wr wx := by rw [hwx]; exact (Below.refl _ _).alloc (Nat.le_refl _) _
    have hszx : wr.heap.size + 1 = wx.heap.size := by rw [hwx]; simp
    rw [hszx, ← hwx];have D1 := Kd.C_alloc (lit_C wx [4, 4, 4] (by decide)) (.cells (([x.f0, x.f1, x.f2] : List Int).map (Value.int .i64)).toArray 3);have D2 := lit_C (wx.alloc (.cells (([4, 4, 4] : List Int).map (Value.int .i64)).toArray 3)) [x.f0, x.f1, x.f2] (by simp [maxLen]);rw [World.size_alloc] at D2;refine (bin_Put.calls _ 3 [4, 4, 4] _ 3 [x.f0, x.f1, x.f2] _ _ _ D1 (Nat.le_refl _) D2 (Nat.le_refl _) (spanB_put (by have := HSM.out; omega) (by have := HSM.out; omega) (by have := HSM.out; omega) (by have := HSM.out; omega) (by have := HSM.out; omega) (by have := HSM.out; omega))).mono ?_;rintro e w6 ⟨rfl, hb⟩;have hb3 := (((Below.refl wx.heap.size wx).alloc (Nat.le_refl _) (.cells (([4, 4, 4] : List Int).map (Value.int .i64)).toArray 3)).alloc (by simp) (.cells (([x.f0, x.f1, x.f2] : List Int).map (Value.int .i64)).toArray 3));have hb4 := hb3.trans (hb.mono hb3.size);have HW1 := hI (HW.out.below (hbx.trans (hb4.mono hbx.size)));obtain ⟨T, hT⟩ : ∃ T : ByteArray, T = ⟨(bytesN x.f0 4 ++ (bytesN x.f1 4 ++ (bytesN x.f2 4 ++ []))).toArray⟩ := ⟨_, rfl⟩;have HTS := hI (show T.size = 12 by rw [hT]; simp [ByteArray.size, bytesN_length]);have HTL := hI (show T.data.toList = spanB x by rw [hT]; rfl);rw [← hT];obtain ⟨bs, hbs⟩ : ∃ bs, bs = headB f (n : Int) ++ spansB (L.take i) := ⟨_, rfl⟩
    have hlen : (headB f (n : Int) ++ spansB (L.take i)).length ≤ 16 + 12 * 65536 := by
     rw [List.length_append, headB_length, spansB_length, List.length_take];have := HLT.out; have := HN2.out; omega
    rw [← hbs] at HW1 hlen;have HLN := hI hlen;have HBS := hI hbs;have hmx : max (0 : Int) 0 = 0 := by decide
    clear D1 D2 hb hb3 hb4 hbx hszx hwx hT hbs hlen x0 x1 x2 x3 HW;go_wp2_with fail
    refine (writeString_calls w1.heap.size g _ T _ HW1.out.b (by rw [HTS.out]; decide) (by rw [HTS.out, Lib.byteCells_length]; have := HLN.out; omega) HW1.out.hB.size).mono ?_;rintro e w7 ⟨rfl, hbb, hb, _⟩
    have HW2 := hI (show PutW w1 g w7 (headB f (n : Int) ++ spansB (L.take (i + 1))) by
     have := HW1.out.wroteS T (by rw [HTS.out]; decide) hbb hb;rwa [HTL.out, HBS.out, List.append_assoc, ← HSU.out] at this)
    clear hbb hb HW1;go_wp2;go_roundw
    case rel => exact ⟨i + 1, HLT.out, by rw [hwi], rfl, ⟨HW2.out⟩⟩
    case measure => rw [hwi]; exact less_step (by decide) HLT.out
   have hie : i = n := by omega
   subst hie;have d3 : decide ((i : Int) < (i : Int)) = false := decide_eq_false (by omega);obtain ⟨bs, hbs⟩ : ∃ bs, bs = headB f (i : Int) ++ spansB (L.take i) := ⟨_, rfl⟩;have hW := HW.out;rw [← hbs] at hW;have HW1 := hI hW
   have hne : bs ≠ [] := by
    intro e;have h2 : bs.length = 16 + 12 * (L.take i).length := by rw [hbs, List.length_append, headB_length, spansB_length]
    rw [e, List.length_nil] at h2;omega
   have HNE := hI hne
   have hres : r = (⟨bs.toArray⟩, 0) := by
    rw [HRE.out, hbs, HN.out, List.take_length]
   have HRES := hI hres;clear hbs hW hne hlt hres HW;go_wp2_with fail
   refine (string_calls w1.heap.size g bs _ HW1.out.b HNE.out).mono ?_;rintro e w9 ⟨rfl, hb⟩;have HB9 := hI (HB1.out.trans ((HW1.out.hB.trans hb).mono HB1.out.size));clear hb;go_wp2;go_ret2;rw [HRES.out];exact ⟨rfl, HB9.out⟩
def group_Put.f (l0 : List S61) (a1 : Int) : Option (ByteArray × Int) := some (putG l0 a1)
theorem group_Put.calls (A0 : Option Addr) (c0 : Nat) (l0 : List S61) (a1 : Int) (r1 : ByteArray) (r2 : Int) (w : World) (hr0 : Kd.C k61 w A0 l0.length l0) (hc0 : l0.length ≤ c0) (h : group_Put.f l0 a1 = some (r1, r2)) :
  Calls Tryz.prog 48 #[.slice A0 l0.length c0, .int .i64 a1] w fun e w' => e = .returned (.tuple #[.string r1, .int .i64 r2]) ∧ Below w.heap.size w w' := by
 have hr := Option.some.inj h;by_cases hf : a1 ≠ 12 ∧ a1 ≠ 13
 ·
  unfold putG at hr;rw [if_pos hf] at hr;obtain ⟨rfl, rfl⟩ := Prod.mk.inj hr;exact group_put_arg A0 c0 l0 a1 w hf
 exact group_put_walk A0 c0 l0 a1 w hr0 hc0 (by omega) (r1, r2) hr
end Go.Proofs.YtejdflndgnpkcaaGreat.P
end
