/- Words, contracts and plain facts of the proof. Each says its own condition. -/
import Derived.Test.YtejdflndgnpkcaaGreatZCmapDoesu
import Derived.Test.YtejdflndgnpkcaaGreatZCmapDoesv
import Derived.Test.YtejdflndgnpkcaaGreatZCmapDoese
import Derived.Test.YtejdflndgnpkcaaGreatZCmapDoest
import Derived.WalkKit
import Derived.Lib.Hide
import Derived.Test.YtejdflndgnpkcaaGreatZCmapDoesn
set_option linter.unusedVariables false
set_option maxRecDepth 100000
set_option linter.unusedSimpArgs false
set_option maxHeartbeats 16000000
section
namespace Go.Proofs.YtejdflndgnpkcaaGreat.P
open Go.RowKit PW PL PM
theorem rep_replicate (v : Int) : ∀ k, repN [v] k = List.replicate k v
 | 0 => rfl
 | k + 1 => by rw [repN, rep_replicate v k, List.replicate_succ]; rfl
structure PutS (w W : World) (ob rb tb nb n : Nat) (xs ys : List Int) (a : Int) : Prop where
 o : ∃ vo vr, W.heap[ob]? = some (.cells #[vo] 35 (0, 0)) ∧ W.heap[rb]? = some (.cells #[vr] 35 (0, 0)) ∧ Kd.R (Kd.int .i64) 3 W w.heap.size (fun k => k ≠ nb ∧ k ≠ tb) vo xs ∧ Kd.R (Kd.int .i64) 3 W w.heap.size (fun k => k ≠ nb ∧ k ≠ tb) vr ys ∧ (∀ k, vo.ownBlock = some k → vr.ownBlock ≠ some k)
 t : W.heap[tb]? = some (.cells #[.int .i64 a] 3 (0, 0))
 n : W.heap[nb]? = some (.cells #[.int .i64 (n : Int)] 3 (0, 0))
 b : Below w.heap.size w W
 s : w.heap.size ≤ ob ∧ w.heap.size ≤ rb ∧ w.heap.size ≤ tb ∧ ob ≠ rb ∧ tb ≠ nb
namespace PutS
variable {w W U : World} {ob rb tb nb n : Nat} {xs ys : List Int} {a : Int}
theorem below (h : PutS w W ob rb tb nb n xs ys a) (hb : Below W.heap.size W U) : PutS w U ob rb tb nb n xs ys a := by
 obtain ⟨vo, vr, h1, h2, h3, h4, h5⟩ := h.o;exact ⟨⟨vo, vr, (hb.block ob (blk_lt h1)).trans h1, (hb.block rb (blk_lt h2)).trans h2, Kd.R_below h3 hb, Kd.R_below h4 hb, h5⟩, (hb.block tb (blk_lt h.t)).trans h.t, (hb.block nb (blk_lt h.n)).trans h.n, below_then h.b h.b.size hb, h.s⟩
theorem typed {b c : Nat} {cs ct : Array Value} {e f : TypeId} (hb : W.heap[b]? = some (.cells cs e (0, 0))) (hc : W.heap[c]? = some (.cells ct f (0, 0))) (hef : e ≠ f) : b ≠ c := fun h => by
 subst h;rw [hb] at hc;injection hc with hc
 injection hc with _ hc
 exact hef hc
theorem count (h : PutS w W ob rb tb nb n xs ys a) (a1 : Int) : PutS w (W.setCell ⟨tb, 0, none⟩ (.int .i64 a1)) ob rb tb nb n xs ys a1 := by
 obtain ⟨vo, vr, h1, h2, h3, h4, h5⟩ := h.o;have hne1 : ob ≠ tb := typed h1 h.t (by decide);have hne2 : rb ≠ tb := typed h2 h.t (by decide);exact ⟨⟨vo, vr, (Below.heap_setCell W _ _ _ hne1).trans h1, (Below.heap_setCell W _ _ _ hne2).trans h2, Kd.R_far h3 (fun k hk => hk.2) _, Kd.R_far h4 (fun k hk => hk.2) _, h5⟩, set_one h.t _, (Below.heap_setCell W _ _ _ (fun e => h.s.2.2.2.2 e.symm)).trans h.n, h.b.setCell h.s.2.2.1 _, h.s⟩
theorem puts {vo vr v1 : Value} {zs : List Int} (h : PutS w W ob rb tb nb n xs ys a) (h1 : W.heap[ob]? = some (.cells #[vo] 35 (0, 0))) (h2 : W.heap[rb]? = some (.cells #[vr] 35 (0, 0))) (h3 : Kd.R (Kd.int .i64) 3 W w.heap.size (fun k => k ≠ nb ∧ k ≠ tb) vo xs) (h4 : Kd.R (Kd.int .i64) 3 W w.heap.size (fun k => k ≠ nb ∧ k ≠ tb) vr ys)
  (h5 : ∀ k, vo.ownBlock = some k → vr.ownBlock ≠ some k) (hv : Kd.R (Kd.int .i64) 3 U w.heap.size (fun k => k ≠ nb ∧ k ≠ tb) v1 zs) (hb : Below w.heap.size w U) (hg : W.grownBy U vo.ownBlock) (hat : v1.ownBlock = vo.ownBlock ∨ ∃ b, v1.ownBlock = some b ∧ W.heap.size ≤ b) :
  PutS w (U.setCell ⟨ob, 0, none⟩ v1) ob rb tb nb n zs ys a ∧ Keep4 W (U.setCell ⟨ob, 0, none⟩ v1) := by
 have hty := row_typed h3
 have hne : ∀ b cs t, W.heap[b]? = some (.cells cs t (0, 0)) → (t ≠ 3 ∨ b = nb ∨ b = tb) → some b ≠ vo.ownBlock := fun b cs t hb ht e => by
  obtain ⟨_, _, hok, cells, hc⟩ := hty b e.symm;rcases ht with ht | ht | ht
  ·
   rw [hb] at hc;injection hc with hc
   injection hc with _ hc
   exact ht hc
  · exact hok.1 ht
  exact hok.2 ht
 have keep : ∀ b cs t, W.heap[b]? = some (.cells cs t (0, 0)) → (t ≠ 3 ∨ b = nb ∨ b = tb) → U.heap[b]? = some (.cells cs t (0, 0)) := fun b cs t hb ht => (hg.block b (blk_lt hb) (hne b cs t hb ht)).trans hb
 have u1 := keep ob _ _ h1 (.inl (by decide));have u2 := keep rb _ _ h2 (.inl (by decide));have ut := keep tb _ _ h.t (.inr (.inr rfl));have un := keep nb _ _ h.n (.inr (.inl rfl));have hot : ob ≠ tb := typed h1 h.t (by decide);have hon : ob ≠ nb := typed h1 h.n (by decide);have hobt : ∀ {e : TypeId} {cs : Array Value} {b : Nat}, U.heap[b]? = some (.cells cs e (0, 0)) → e ≠ 35 → b ≠ ob := fun hb he => typed hb u1 he
 have r4 : Kd.R (Kd.int .i64) 3 U w.heap.size (fun k => k ≠ nb ∧ k ≠ tb) vr ys := by
  have r5 : Kd.R (Kd.int .i64) 3 W w.heap.size (fun k => (k ≠ nb ∧ k ≠ tb) ∧ vr.ownBlock = some k) vr ys := Kd.R_of_own (Kd.own_of_R h4) (fun k hk => ⟨h4.1 k hk, hk⟩);refine Kd.R_mono (Kd.R_move r5 (fun k hk => ?_)) (fun k hk => hk.1);exact hg.block k (row_typed h4 k hk.2).1 (fun e => h5 k e.symm hk.2)
 refine ⟨⟨⟨v1, vr, set_one u1 _, (Below.heap_setCell U _ _ _ (fun e => h.s.2.2.2.1 e.symm)).trans u2, ?_, ?_, fun k hk e => ?_⟩, (Below.heap_setCell U _ _ _ (fun e => hot e.symm)).trans ut, (Below.heap_setCell U _ _ _ (fun e => hon e.symm)).trans un, hb.setCell h.s.1 _, h.s⟩, ?_⟩
 · exact Kd.R_set hv u1 (by simp [Kd.int, Kd.scalar]) _ _
 · exact Kd.R_set r4 u1 (by simp [Kd.int, Kd.scalar]) _ _
 ·
  rcases hat with hat | ⟨b', hb', hle⟩
  · exact h5 k (by rw [← hat]; exact hk) e
  rw [hb'] at hk;injection hk with hk
  have := (row_typed h4 k e).1;omega
 exact (Keep4.grown hg (fun k e => (hty k e).2.2.2)).trans (Keep4.set u1 (.inr rfl) 0 v1)
theorem swap (h : PutS w W ob rb tb nb n xs ys a) : PutS w W rb ob tb nb n ys xs a := by
 obtain ⟨vo, vr, h1, h2, h3, h4, h5⟩ := h.o;exact ⟨⟨vr, vo, h2, h1, h4, h3, fun k hk e => h5 k e hk⟩, h.t, h.n, h.b, h.s.2.1, h.s.1, h.s.2.2.1, fun e => h.s.2.2.2.1 e.symm, h.s.2.2.2.2⟩
end PutS
def off6 (x : S61) (v : Int) : Int := if rowN x = true then v else 0
theorem off6_row {x : S61} (h : rowN x = true) (v : Int) : off6 x v = v := by unfold off6; rw [if_pos h]
theorem off6_one {x : S61} (h : rowN x = false) (v : Int) : off6 x v = 0 := by unfold off6; rw [h, if_neg Bool.false_ne_true]
def offI (n i q : Nat) : Int := 2 * ((n : Int) - ((i : Int) + 1) + 1) + 2 * (q : Int)
theorem put6_walk (w W : World) (ob rb tb nb n i : Nat) (xs ys : List Int) (x : S61) (hx : rightN x = true) (h : PutS w W ob rb tb nb n xs ys (i : Int)) (hi : i < n) (hn : n ≤ 70000) (hq : ys.length + cntX x ≤ 10000000) :
  Calls Tryz.prog 91 #[.agg #[.int .i64 x.f0, .int .i64 x.f1, .int .i64 x.f2, .int .i64 x.f3], .pointer (some ⟨tb, 0, none⟩), .pointer (some ⟨nb, 0, none⟩), .pointer (some ⟨rb, 0, none⟩)] W fun e w' =>
   e = .returned (.int .i64 (off6 x (offI n i ys.length))) ∧ PutS w w' ob rb tb nb n xs (ys ++ List.replicate (cntX x) x.f2) ((i : Int) + 1) ∧ Keep4 W w' := by
 have H := hI h;have HXB := hI ((right_iff x).1 hx);have HI := hI hi;have HN := hI hn;have HQ := hI hq;have hw1 : wrap64 ((i : Int) + 1) = (i : Int) + 1 := by unfold wrap64; omega
 obtain ⟨wx, hwx⟩ : ∃ wx, wx = W.alloc (.cells #[.int .i64 x.f0, .int .i64 x.f1, .int .i64 x.f2, .int .i64 x.f3] 61) := ⟨_, rfl⟩;obtain ⟨b4, hb4⟩ : ∃ b4, b4 = W.heap.size := ⟨_, rfl⟩;have hbx : Below W.heap.size W wx := by rw [hwx]; exact (Below.refl _ W).alloc (Nat.le_refl _) _
 have HX0 := hI (h.below hbx);have hx4 : wx.heap[b4]? = some (.cells #[.int .i64 x.f0, .int .i64 x.f1, .int .i64 x.f2, .int .i64 x.f3] 61 (0, 0)) := by rw [hwx, hb4]; exact World.alloc_heap_new W _
 obtain ⟨t0, t1⟩ := one_cell HX0.out.t;have HX1 := hI (HX0.out.count ((i : Int) + 1));have hk1 := (Keep4.below hbx).trans (Keep4.set HX0.out.t (.inl rfl) 0 (.int .i64 ((i : Int) + 1)));have HK1 := hI hk1;have hx5 := (Below.heap_setCell wx ⟨tb, 0, none⟩ (.int .i64 ((i : Int) + 1)) b4 (PutS.typed hx4 HX0.out.t (by decide))).trans hx4;obtain ⟨wy, hwy⟩ : ∃ wy, wy = wx.setCell ⟨tb, 0, none⟩ (.int .i64 ((i : Int) + 1)) := ⟨_, rfl⟩;rw [← hwy] at HX1 HK1 hx5;have y0 : wy.cell? ⟨b4, 0, none⟩ = some (.int .i64 x.f0) := (blk_cell hx5 0).trans rfl;have y1 : wy.cell? ⟨b4, 1, none⟩ = some (.int .i64 x.f1) := (blk_cell hx5 1).trans rfl;have y2 : wy.cell? ⟨b4, 2, none⟩ = some (.int .i64 x.f2) := (blk_cell hx5 2).trans rfl;have y3 : wy.cell? ⟨b4, 3, none⟩ = some (.int .i64 x.f3) := (blk_cell hx5 3).trans rfl;have HX5 := hI hx5;clear h hx hi hn hq hbx hx4 hk1 hx5;go_enter Tryz.func91, Tryz.ntmps91;go_upto_region 1 with (fail)
 rw [← hwx, ← hb4];clear hwx hb4;go_upto_region 2 with (fail)
 rw [← hwy];clear hwy t0 t1;go_wp2_with fail
 refine (segment_row.calls x.f0 x.f1 x.f2 x.f3 (rowN x) _ (row_some x)).mono ?_;rintro e w1 ⟨rfl, hb1⟩;have H2 := hI (HX1.out.below hb1);have HK2 := hI (HK1.out.trans (Keep4.below hb1));have HX6 := hI ((hb1.block b4 (blk_lt HX5.out)).trans HX5.out);clear hb1 y0 y1 y2 y3;have HRN := hI (show ∀ b, rowN x = b → rowN x = b from fun _ h => h);cases hrow : rowN x with
 | false =>
  have hcx : cntX x = 0 := by unfold cntX; rw [hrow, if_neg (by decide)]
  have HCX := hI hcx;have HROW := hI hrow;clear hrow hcx;go_wp2;go_ret;rw [HCX.out, List.replicate_zero, List.append_nil];refine ⟨?_, H2.out, HK2.out⟩;rw [off6_one HROW.out];rfl
 | true =>
  have HCX := hI (show (cntX x : Int) = x.f1 - x.f0 + 1 by
   have := HXB.out;have := (row_iff x).1 hrow;unfold cntX; rw [hrow, if_pos rfl]; omega)
  obtain ⟨n0, n1⟩ := one_cell H2.out.n;obtain ⟨t0, t1⟩ := one_cell H2.out.t;obtain ⟨vo, vr, ho, hr, h3, h4, h5⟩ := H2.out.o;obtain ⟨Ar, kr, rfl⟩ := Kd.R_slice h4;obtain ⟨r0, r1⟩ := one_cell hr;obtain ⟨q, hqq⟩ : ∃ q, q = ys.length := ⟨_, rfl⟩;rw [← hqq] at r0 hr h4 h5 HQ;have HQQ := hI hqq;have HO := hI ho;have HR := hI hr;have HR3 := hI h3;have HR4 := hI h4;have HR5 := hI h5;have u1 : wrap64 ((n : Int) - ((i : Int) + 1)) = (n : Int) - ((i : Int) + 1) := by have := HN.out; have := HI.out; unfold wrap64; omega
  have u2 : wrap64 ((n : Int) - ((i : Int) + 1) + 1) = (n : Int) - ((i : Int) + 1) + 1 := by have := HN.out; have := HI.out; unfold wrap64; omega
  have u3 : wrap64 (2 * ((n : Int) - ((i : Int) + 1) + 1)) = 2 * ((n : Int) - ((i : Int) + 1) + 1) := by have := HN.out; have := HI.out; unfold wrap64; omega
  have u4 : wrap64 (2 * (q : Int)) = 2 * (q : Int) := by have := HQ.out; unfold wrap64; omega
  have HU5 := hI (show wrap64 (2 * ((n : Int) - ((i : Int) + 1) + 1) + 2 * (q : Int)) = offI n i q by have := HQ.out; have := HN.out; have := HI.out; unfold offI wrap64; omega);have HROW := hI hrow;clear hrow ho hr h3 h4 h5 hqq;go_upto_region 5 with (fail)
  refine wp_mono (Q := Exit.then ?_ (fun _ _ _ => False)) ?_ ?_;rotate_left 2
  ·
   intro e a w h;cases e with
   | normal => exact h
   | _ => exact (show False from h).elim
  clear n0 n1 t0 t1 r0 r1;refine bh_ 13 (fun u => u.heap[b4]? = some (.cells #[.int .i64 x.f0, .int .i64 x.f1, .int .i64 x.f2, .int .i64 x.f3] 61 (0, 0)) ∧ u.heap[rb]? = some (.cells #[.slice Ar q kr] 35 (0, 0))) [12] ⟨HX6.out, HR.out⟩ (fun hHeld => ?_);obtain ⟨wd, hwd⟩ : ∃ wd, wd = w1.drew := ⟨_, rfl⟩;have hbd : Below w1.heap.size w1 wd := by rw [hwd]; exact below_drew1 (Below.refl _ _)
  rw [← hwd] at hHeld ⊢;have HBD := hI hbd;clear hwd hbd;have v1_ : IntKind.i64.wrap (x.f1 - x.f0) = x.f1 - x.f0 := by rw [i64_w]; have := HXB.out; unfold wrap64; omega
  have v2_ : IntKind.i64.wrap (x.f1 - x.f0 + 1) = x.f1 - x.f0 + 1 := by rw [i64_w]; have := HXB.out; unfold wrap64; omega
  have v3_ : wrap64 (x.f1 - x.f0) = x.f1 - x.f0 := by have := HXB.out; unfold wrap64; omega
  have v4_ : wrap64 (x.f1 - x.f0 + 1) = x.f1 - x.f0 + 1 := by have := HXB.out; unfold wrap64; omega
  refine pS_ 1 22 ?_;refine pS_ 4 25 ?_;refine pS_ 6 27 ?_;refine take_ (i := 0) (N := some 21) (v := ?_) (a' := ?_) #[true, true, false, false, true, false, true, false, false, false, false, false, false] rfl rfl (by kernel_rfl) (fun _ _ _ h => h) (Or.inl ⟨by rfl, ?_⟩) hHeld ?_ ?_;rotate_left
  ·
   rintro w' s0;obtain ⟨t0, t1⟩ := s0;have q0 := (one_cell t1).1;have z0 : w'.cell? ⟨b4, 0, none⟩ = some (.int .i64 x.f0) := (blk_cell t0 0).trans rfl;have z1 : w'.cell? ⟨b4, 1, none⟩ = some (.int .i64 x.f1) := (blk_cell t0 1).trans rfl;have z2 : w'.cell? ⟨b4, 2, none⟩ = some (.int .i64 x.f2) := (blk_cell t0 2).trans rfl;clear t0 t1;go_simp
   with_reducible rfl
  rotate_left
  ·
   simp only [Act.put, List.setIfInBounds_toArray, List.set_cons_zero, List.set_cons_succ, i64_w, i32_w];rfl
  refine take_ (i := 2) (N := some 23) (v := ?_) (a' := ?_) #[true, true, true, false, true, false, true, false, false, false, false, false, false] rfl rfl (by kernel_rfl) (fun _ _ _ h => h) (Or.inl ⟨by rfl, ?_⟩) hHeld ?_ ?_;rotate_left
  ·
   rintro w' s0;obtain ⟨t0, t1⟩ := s0;have q0 := (one_cell t1).1;have z0 : w'.cell? ⟨b4, 0, none⟩ = some (.int .i64 x.f0) := (blk_cell t0 0).trans rfl;have z1 : w'.cell? ⟨b4, 1, none⟩ = some (.int .i64 x.f1) := (blk_cell t0 1).trans rfl;have z2 : w'.cell? ⟨b4, 2, none⟩ = some (.int .i64 x.f2) := (blk_cell t0 2).trans rfl;clear t0 t1;go_simp
   with_reducible rfl
  rotate_left
  ·
   simp only [Act.put, List.setIfInBounds_toArray, List.set_cons_zero, List.set_cons_succ, i64_w, i32_w];rfl
  refine take_ (i := 5) (N := some 26) (v := ?_) (a' := ?_) #[true, true, true, false, true, true, true, false, false, false, false, false, false] rfl rfl (by kernel_rfl) (fun _ _ _ h => h) (Or.inl ⟨by rfl, ?_⟩) hHeld ?_ ?_;rotate_left
  ·
   rintro w' s0;obtain ⟨t0, t1⟩ := s0;have q0 := (one_cell t1).1;have z0 : w'.cell? ⟨b4, 0, none⟩ = some (.int .i64 x.f0) := (blk_cell t0 0).trans rfl;have z1 : w'.cell? ⟨b4, 1, none⟩ = some (.int .i64 x.f1) := (blk_cell t0 1).trans rfl;have z2 : w'.cell? ⟨b4, 2, none⟩ = some (.int .i64 x.f2) := (blk_cell t0 2).trans rfl;clear t0 t1;go_simp
   with_reducible rfl
  rotate_left
  ·
   simp only [Act.put, List.setIfInBounds_toArray, List.set_cons_zero, List.set_cons_succ, i64_w, i32_w];rfl
  refine take_ (i := 7) (N := some 28) (v := ?_) (a' := ?_) #[true, true, true, false, true, true, true, true, false, false, false, false, false] rfl rfl (by kernel_rfl) (fun _ _ _ h => h) (Or.inl ⟨by rfl, ?_⟩) hHeld ?_ ?_;rotate_left
  ·
   rintro w' s0;obtain ⟨t0, t1⟩ := s0;have q0 := (one_cell t1).1;have z0 : w'.cell? ⟨b4, 0, none⟩ = some (.int .i64 x.f0) := (blk_cell t0 0).trans rfl;have z1 : w'.cell? ⟨b4, 1, none⟩ = some (.int .i64 x.f1) := (blk_cell t0 1).trans rfl;have z2 : w'.cell? ⟨b4, 2, none⟩ = some (.int .i64 x.f2) := (blk_cell t0 2).trans rfl;clear t0 t1;go_simp
   with_reducible rfl
  rotate_left
  ·
   simp only [Act.put, List.setIfInBounds_toArray, List.set_cons_zero, List.set_cons_succ, i64_w, i32_w];rfl
  refine pS_ 8 29 ?_;refine pS_ 9 30 ?_;refine oS_ 3 24 (fun K hK => ?_);refine vS_ ?_;have hbl : Below wd.heap.size wd (wd.alloc (.cells #[.int .i64 x.f2] 3)) := (Below.refl _ wd).alloc (Nat.le_refl _) _;have HA := hI (show Kd.C (Kd.int .i64) (wd.alloc (.cells #[.int .i64 x.f2] 3)) (some ⟨wd.heap.size, 0, none⟩) ([x.f2] : List Int).length [x.f2] from lit_C wd [x.f2] (by simp [maxLen]));have HBL := hI (HBD.out.trans (hbl.mono HBD.out.size));refine hK.out _ _ ⟨(hbl.block b4 (blk_lt hHeld.1)).trans hHeld.1, (hbl.block rb (blk_lt hHeld.2)).trans hHeld.2⟩ (fun hHeld2 => ?_);clear hK hbl;refine nS_ ?_;obtain ⟨we, hwe⟩ : ∃ we, we = wd.alloc (.cells #[.int .i64 x.f2] 3) := ⟨_, rfl⟩;obtain ⟨b6, hb6⟩ : ∃ b6, b6 = wd.heap.size := ⟨_, rfl⟩;rw [← hwe] at HA HBL hHeld2 ⊢;rw [← hb6] at HA ⊢;clear hwe hb6;refine oS_ 10 31 (fun K hK => ?_);go_simp
  go_at_call 21
  refine (slices_Repeat_int_int.calls _ 1 [x.f2] (x.f1 - x.f0 + 1) (List.replicate (cntX x) x.f2) we HA.out (Nat.le_refl _) (by
   unfold slices_Repeat_int_int.f slices_Repeat.f;have h1 := HCX.out;have h2 := HQ.out;rw [if_pos ⟨by omega, by omega, by simp, by simp; omega⟩, rep_replicate, ← h1, Int.toNat_natCast])).mono ?_
  rintro e wf ⟨vf, rfl, hrf, hbf⟩;obtain ⟨Af, kf, rfl⟩ := Kd.R_slice hrf;obtain ⟨_, _, hne, _, hCf⟩ := Kd.R_reads hrf;injection hne with hn1 hn2 hn3
  subst hn1;have HCF := hI hCf;have HBF := hI (HBL.out.trans (hbf.mono HBL.out.size));dsimp only
  refine hK.out _ _ ⟨(hbf.block b4 (blk_lt hHeld2.1)).trans hHeld2.1, (hbf.block rb (blk_lt hHeld2.2)).trans hHeld2.2⟩ (fun hHeld3 => ?_);clear hK hrf hbf hCf hn2 hn3;have HPF := hI (H2.out.below HBF.out);have HKF := hI (HK2.out.trans (Keep4.below HBF.out));have HR3F := hI (Kd.R_below HR3.out HBF.out);have HR4F := hI (Kd.R_below HR4.out HBF.out);have HOF := hI ((HBF.out.block ob (blk_lt HO.out)).trans HO.out);obtain ⟨m, hm⟩ : ∃ m, m = (List.replicate (cntX x) x.f2).length := ⟨_, rfl⟩;rw [← hm] at HCF ⊢;have HM := hI (show m = cntX x by rw [hm, List.length_replicate]);clear hm;refine oS_ 11 32 (fun K hK => ?_);refine Kd.R_append_rows_step (Kd.int .i64) (w0 := w) w.heap.size (by rfl) (.tmp 21) (.tmp 31) 35 3 (.int .i64 0) 8 rfl Tryz.underlying35 intInfo rfl (by decide) (by decide) _ ys (List.replicate (cntX x) x.f2) _ _ _ (fun k => k ≠ nb ∧ k ≠ tb) (fun _ => False) rfl rfl HR4F.out HCF.out (fun _ _ h => h) (fun _ h => h.elim) (fun k hk => ⟨fun e => by have := blk_lt HPF.out.n; omega, fun e => by have := blk_lt HPF.out.t; omega⟩) HPF.out.b HPF.out.b.size (by have := HQ.out; have := HM.out; have := HQQ.out; omega) ?_;intro v9 wa hva hba hga hat;obtain ⟨hps, hks⟩ := PutS.puts (PutS.swap HPF.out) hHeld3.2 HOF.out HR4F.out HR3F.out (fun k hk e => HR5.out k e hk) hva hba hga hat;have HPS := hI (PutS.swap hps);have HKS := hI (HKF.out.trans hks);have hty := row_typed HR4F.out
  have hrbn : ∀ {b : Nat} {cs : Array Value} {t : TypeId}, wf.heap[b]? = some (.cells cs t (0, 0)) → t ≠ 3 → wa.heap[b]? = some (.cells cs t (0, 0)) := fun {b cs t} hb ht => (hga.block b (blk_lt hb) (fun e => by
   obtain ⟨_, _, _, cells, hc⟩ := hty b e.symm;rw [hb] at hc;injection hc with hc
   injection hc with _ hc
   exact ht hc)).trans hb
  obtain ⟨A9, k9, rfl⟩ := Kd.R_slice hva;refine hK.out _ _ ⟨hrbn hHeld3.1 (by decide), hrbn hHeld3.2 (by decide)⟩ (fun hHeld4 => ?_);clear hK hva hba hga hat hps hks hty hrbn;generalize (ys ++ List.replicate (cntX x) x.f2).length = q9 at HPS HKS ⊢
  refine nS_ ?_;refine lN_ 12 (fun K hK => ?_);obtain ⟨e0, e1⟩ := one_cell hHeld4.2;refine skip_ (w1 := ?_) (by rfl) rfl ?_ ?_;rotate_left
  ·
   go_simp
   rfl
  refine hK.out _ _ ?_;clear hK;refine dS_ ?_;clear e0 e1 u1 u2 u3 u4 v1_ v2_ v3_ v4_;obtain ⟨wz, hwz⟩ : ∃ wz, wz = wa.setCell ⟨rb, 0, none⟩ (.slice A9 q9 k9) := ⟨_, rfl⟩;rw [← hwz] at HPS HKS ⊢;clear hwz;go_wp2;go_ret;refine ⟨?_, HPS.out, HKS.out⟩;show Ending.returned (.int .i64 (wrap64 (2 * ((n : Int) - ((i : Int) + 1) + 1) + 2 * (q : Int)))) = _
  rw [HU5.out, HQQ.out, off6_row HROW.out]
end Go.Proofs.YtejdflndgnpkcaaGreat.P
end
section
namespace Go.Proofs.YtejdflndgnpkcaaGreat.P
open Go.RowKit PW PL PM
attribute [local go_sem] max2_int min2_int max_two min_two max_three min_three max_four min_four
def segment_Put_3.f (a0_0 : Int) (a0_1 : Int) (a0_2 : Int) (a0_3 : Int) : Option (Int) := some a0_1
theorem segment_Put_3.calls (a0_0 : Int) (a0_1 : Int) (a0_2 : Int) (a0_3 : Int) (r : Int) (w : World) (h : segment_Put_3.f a0_0 a0_1 a0_2 a0_3 = some r) :
  Calls Tryz.prog 87 #[.agg #[.int .i64 a0_0, .int .i64 a0_1, .int .i64 a0_2, .int .i64 a0_3]] w fun e w' => e = .returned (.int .i64 r) ∧ Below w.heap.size w w' := by
 have hu61 := Tryz.underlying61;have HB := aK (Below.refl w.heap.size w);have H : (some a0_1) = some r := h;clear h;obtain rfl := Option.some.inj H;go_enter Tryz.func87, Tryz.ntmps87;go_wp2_with (first | ((with_reducible refine gate_dst (N := 1) rfl ?_); refine box4 1 61 a0_0 a0_1 a0_2 a0_3 ?_; clear HB; intro gb528 w2 BK528 GW528 GE528 HB hcz3_0 hcz3_1 hcz3_2 hcz3_3 hfz3_0 hfz3_1 hfz3_2 hfz3_3))
 go_ret;exact ⟨eA, bG GE528.out⟩
def segment_Put_4.f (a0_0 : Int) (a0_1 : Int) (a0_2 : Int) (a0_3 : Int) : Option (Int) := some a0_0
theorem segment_Put_4.calls (a0_0 : Int) (a0_1 : Int) (a0_2 : Int) (a0_3 : Int) (r : Int) (w : World) (h : segment_Put_4.f a0_0 a0_1 a0_2 a0_3 = some r) :
  Calls Tryz.prog 88 #[.agg #[.int .i64 a0_0, .int .i64 a0_1, .int .i64 a0_2, .int .i64 a0_3]] w fun e w' => e = .returned (.int .i64 r) ∧ Below w.heap.size w w' := by
 have hu61 := Tryz.underlying61;have HB := aK (Below.refl w.heap.size w);have H : (some a0_0) = some r := h;clear h;obtain rfl := Option.some.inj H;go_enter Tryz.func88, Tryz.ntmps88;go_wp2_with (first | ((with_reducible refine gate_dst (N := 1) rfl ?_); refine box4 1 61 a0_0 a0_1 a0_2 a0_3 ?_; clear HB; intro gb529 w2 BK529 GW529 GE529 HB hcz3_0 hcz3_1 hcz3_2 hcz3_3 hfz3_0 hfz3_1 hfz3_2 hfz3_3))
 go_ret;exact ⟨eA, bG GE529.out⟩
def segment_Put_5.f (a0_0 : Int) (a0_1 : Int) (a0_2 : Int) (a0_3 : Int) : Option (Int) := (segment_row.f a0_0 a0_1 a0_2 a0_3).bind fun t531 => (if t531 = true then (some 0) else (some (Int.tmod (wrap64 ((wrap64 (65536 + a0_2)) - a0_0)) 65536)))
theorem segment_Put_5.calls (a0_0 : Int) (a0_1 : Int) (a0_2 : Int) (a0_3 : Int) (r : Int) (w : World) (h : segment_Put_5.f a0_0 a0_1 a0_2 a0_3 = some r) :
  Calls Tryz.prog 89 #[.agg #[.int .i64 a0_0, .int .i64 a0_1, .int .i64 a0_2, .int .i64 a0_3]] w fun e w' => e = .returned (.int .i64 r) ∧ Below w.heap.size w w' := by
 have hu61 := Tryz.underlying61;have HB := aK (Below.refl w.heap.size w);have H : ((segment_row.f a0_0 a0_1 a0_2 a0_3).bind fun t531 => (if t531 = true then (some 0) else (some (Int.tmod (wrap64 ((wrap64 (65536 + a0_2)) - a0_0)) 65536)))) = some r := h;clear h;replace H := qS H;obtain ⟨t531, A2, H⟩ := H;replace H := qB H;rcases H with ⟨rfl, H⟩ | ⟨rfl, H⟩
 ·
  obtain rfl := Option.some.inj H;go_enter Tryz.func89, Tryz.ntmps89;go_wp2_with (first | ((with_reducible refine gate_dst (N := 1) rfl ?_); refine box4 1 61 a0_0 a0_1 a0_2 a0_3 ?_; clear HB; intro gb530 w4 BK530 GW530 GE530 HB hcz5_0 hcz5_1 hcz5_2 hcz5_3 hfz5_0 hfz5_1 hfz5_2 hfz5_3) | ((with_reducible refine gate_callee (f := 90) rfl ?_); refine gC_ 4 Tryz.func90 (segment_row.calls a0_0 a0_1 a0_2 a0_3 true _ A2.out) ?_; intro w6 hb; replace BK530 := aK (blk_below (g := gb530) (o := .cells #[.int .i64 a0_0, .int .i64 a0_1, .int .i64 a0_2, .int .i64 a0_3] 61 (0, 0)) (by (with_reducible repeat (first | refine blk_drewN ?_ _ | refine blk_drew ?_ | refine blk_alloc ?_ _)); exact BK530.out) hb); replace HB := aK (below_step (bG GE530.out) hb); (try clear hb)))
  go_ret;exact ⟨eA, bG GE530.out⟩
 obtain rfl := Option.some.inj H;go_enter Tryz.func89, Tryz.ntmps89;go_wp2_with (first | ((with_reducible refine gate_dst (N := 1) rfl ?_); refine box4 1 61 a0_0 a0_1 a0_2 a0_3 ?_; clear HB; intro gb530 w7 BK530 GW530 GE530 HB hcz8_0 hcz8_1 hcz8_2 hcz8_3 hfz8_0 hfz8_1 hfz8_2 hfz8_3) | ((with_reducible refine gate_callee (f := 90) rfl ?_); refine gC_ 4 Tryz.func90 (segment_row.calls a0_0 a0_1 a0_2 a0_3 false _ A2.out) ?_; intro w9 hb; replace BK530 := aK (blk_below (g := gb530) (o := .cells #[.int .i64 a0_0, .int .i64 a0_1, .int .i64 a0_2, .int .i64 a0_3] 61 (0, 0)) (by (with_reducible repeat (first | refine blk_drewN ?_ _ | refine blk_drew ?_ | refine blk_alloc ?_ _)); exact BK530.out) hb); replace HB := aK (below_step (bG GE530.out) hb); (try clear hb); have hcz10_0 : w9.cell? ⟨gb530, 0, none⟩ = some (.int .i64 a0_0) := (blk_cell BK530.out 0).trans rfl; have hcz10_1 : w9.cell? ⟨gb530, 1, none⟩ = some (.int .i64 a0_1) := (blk_cell BK530.out 1).trans rfl; have hcz10_2 : w9.cell? ⟨gb530, 2, none⟩ = some (.int .i64 a0_2) := (blk_cell BK530.out 2).trans rfl; have hcz10_3 : w9.cell? ⟨gb530, 3, none⟩ = some (.int .i64 a0_3) := (blk_cell BK530.out 3).trans rfl; have hfz10_0 := blk_frozen BK530.out 0; have hfz10_1 := blk_frozen BK530.out 1; have hfz10_2 := blk_frozen BK530.out 2; have hfz10_3 := blk_frozen BK530.out 3))
 go_ret;exact ⟨eA, bG GE530.out⟩
end Go.Proofs.YtejdflndgnpkcaaGreat.P
end
section
namespace Go.Proofs.YtejdflndgnpkcaaGreat.P
open Go.RowKit PW PL PM
structure OutW (w W : World) (ob nb n : Nat) (xs : List Int) : Prop where
 o : ∃ vo, W.heap[ob]? = some (.cells #[vo] 35 (0, 0)) ∧ Kd.R (Kd.int .i64) 3 W w.heap.size (fun k => k ≠ nb) vo xs
 n : W.heap[nb]? = some (.cells #[.int .i64 (n : Int)] 3 (0, 0))
 b : Below w.heap.size w W
 s : w.heap.size ≤ ob
namespace OutW
variable {w W U : World} {ob nb n : Nat} {xs : List Int}
theorem below (h : OutW w W ob nb n xs) (hb : Below W.heap.size W U) : OutW w U ob nb n xs := by
 obtain ⟨vo, h1, h3⟩ := h.o;exact ⟨⟨vo, (hb.block ob (blk_lt h1)).trans h1, Kd.R_below h3 hb⟩, (hb.block nb (blk_lt h.n)).trans h.n, below_then h.b h.b.size hb, h.s⟩
theorem puts {vo v1 : Value} {zs : List Int} (h : OutW w W ob nb n xs) (h1 : W.heap[ob]? = some (.cells #[vo] 35 (0, 0))) (h3 : Kd.R (Kd.int .i64) 3 W w.heap.size (fun k => k ≠ nb) vo xs)
  (hv : Kd.R (Kd.int .i64) 3 U w.heap.size (fun k => k ≠ nb) v1 zs) (hb : Below w.heap.size w U) (hg : W.grownBy U vo.ownBlock) :
  OutW w (U.setCell ⟨ob, 0, none⟩ v1) ob nb n zs ∧ Keep4 W (U.setCell ⟨ob, 0, none⟩ v1) := by
 have hty := row_typed h3
 have hne : ∀ b cs t, W.heap[b]? = some (.cells cs t (0, 0)) → (t ≠ 3 ∨ b = nb) → some b ≠ vo.ownBlock := fun b cs t hb ht e => by
  obtain ⟨_, _, hok, cells, hc⟩ := hty b e.symm;rcases ht with ht | ht
  ·
   rw [hb] at hc;injection hc with hc
   injection hc with _ hc
   exact ht hc
  exact hok ht
 have keep : ∀ b cs t, W.heap[b]? = some (.cells cs t (0, 0)) → (t ≠ 3 ∨ b = nb) → U.heap[b]? = some (.cells cs t (0, 0)) := fun b cs t hb ht => (hg.block b (blk_lt hb) (hne b cs t hb ht)).trans hb
 have u1 := keep ob _ _ h1 (.inl (by decide));have un := keep nb _ _ h.n (.inr rfl);have hon : ob ≠ nb := PutS.typed h1 h.n (by decide);exact ⟨⟨⟨v1, set_one u1 _, Kd.R_set hv u1 (by simp [Kd.int, Kd.scalar]) _ _⟩, (Below.heap_setCell U _ _ _ (fun e => hon e.symm)).trans un, hb.setCell h.s _, h.s⟩, (Keep4.grown hg (fun k e => (hty k e).2.2.2)).trans (Keep4.set u1 (.inr rfl) 0 v1)⟩
theorem put (h : OutW w W ob nb n xs) (A : Option Addr) (m c : Nat) (ys : List Int) (hA : Kd.C (Kd.int .i64) W A m ys) (hl : xs.length + m ≤ 1000000) :
  Calls Tryz.prog 85 #[.slice A m c, .pointer (some ⟨ob, 0, none⟩)] W fun e w' => (∃ v, e = .returned v) ∧ OutW w w' ob nb n (xs ++ ys) ∧ Keep4 W w' := by
 obtain ⟨vo, h1, h3⟩ := h.o;refine (put1_calls ob w W w.heap.size (fun k => k ≠ nb) vo xs ys A m c h1 h3 (fun k hk e => by have := blk_lt h.n; omega) h.b h.b.size hA (by omega)).mono ?_;rintro e w' ⟨hv, U, v1, rfl, hr, hb, hg, _, _⟩;exact ⟨hv, puts h h1 h3 hr hb hg⟩
end OutW
theorem PutS.put {w W : World} {ob rb tb nb n : Nat} {xs ys : List Int} {a : Int} (h : PutS w W ob rb tb nb n xs ys a) (A : Option Addr) (m c : Nat) (zs : List Int) (hA : Kd.C (Kd.int .i64) W A m zs) (hl : xs.length + m ≤ 1000000) :
  Calls Tryz.prog 85 #[.slice A m c, .pointer (some ⟨ob, 0, none⟩)] W fun e w' => (∃ v, e = .returned v) ∧ PutS w w' ob rb tb nb n (xs ++ zs) ys a ∧ Keep4 W w' := by
 obtain ⟨vo, vr, h1, h2, h3, h4, h5⟩ := h.o;refine (put1_calls ob w W w.heap.size (fun k => k ≠ nb ∧ k ≠ tb) vo xs zs A m c h1 h3 (fun k hk => ⟨fun e => by have := blk_lt h.n; omega, fun e => by have := blk_lt h.t; omega⟩) h.b h.b.size hA (by omega)).mono ?_;rintro e w' ⟨hv, U, v1, rfl, hr, hb, hg, hat, _⟩;exact ⟨hv, PutS.puts h h1 h2 h3 h4 h5 hr hb hg hat⟩
theorem map_step {β : Type} (f : S61 → β) (L : List S61) (i : Nat) (h : i < L.length) : (L.take (i + 1)).map f = (L.take i).map f ++ [f (atS L i)] := by
 rw [List.take_add_one, List.getElem?_eq_getElem h, List.map_append, atS_get L i h]; rfl
theorem each_quiet (K : Nat) (he : EntersK K) (f : S61 → Int) (hf : ∀ (x : S61) (W : World), rightN x = true → x.f1 ≤ 65535 → Calls Tryz.prog K #[.agg #[.int .i64 x.f0, .int .i64 x.f1, .int .i64 x.f2, .int .i64 x.f3]] W fun e w' => e = .returned (.int .i64 (f x)) ∧ Below W.heap.size W w')
  (w : World) (lb pb ob nb : Nat) (AL : Option Addr) (n c : Nat) (L : List S61) (W0 : World) (hn : n = L.length) (hn2 : n ≤ 70000) (hr : ∀ x ∈ L, rightN x = true ∧ x.f1 ≤ 65535)
  (hlb : W0.heap[lb]? = some (.cells #[.slice AL n c] 22 (0, 0)))
  (hpb : W0.heap[pb]? = some (.cells #[.func (.func 85) #[] #[.pointer (some ⟨ob, 0, none⟩)]] 112 (0, 0)))
  (hC : Kd.C k61 W0 AL n L) (hT : ∀ a, AL = some a → ∃ cur, W0.heap[a.block]? = some (.cells cur 61 (0, 0))) (xs : List Int) (h0 : OutW w W0 ob nb n xs) (hl : xs.length + n ≤ 900000) :
  Calls Tryz.prog 86 #[.func (.func K) #[] #[], .pointer (some ⟨lb, 0, none⟩), .pointer (some ⟨pb, 0, none⟩)] W0 fun e w' => (∃ v, e = .returned v) ∧ OutW w w' ob nb n (xs ++ L.map f) ∧ Keep4 W0 w' := by
 have hlen : ∀ i, i ≤ n → (xs ++ (L.take i).map f).length = xs.length + i := fun i hi => by rw [List.length_append, List.length_map, List.length_take]; omega
 refine (each_walk K #[] he lb pb ob AL n c L W0 hn hn2 hlb hpb hC hT (fun i => f (atS L i)) (fun i W => OutW w W ob nb n (xs ++ (L.take i).map f)) (fun i W => OutW w W ob nb n (xs ++ (L.take i).map f)) (by simpa using h0) (fun i W W' h hb => h.below hb) (fun i W W' h hb => h.below hb) ?_ ?_).mono ?_
 ·
  intro i W hi hJ _;have hx : rightN (atS L i) = true ∧ (atS L i).f1 ≤ 65535 := by rw [atS_get L i (by omega)]; exact hr _ (List.getElem_mem _)
  exact (hf (atS L i) W hx.1 hx.2).mono (fun e w' ⟨h1, h2⟩ => ⟨h1, hJ.below h2, Keep4.below h2⟩)
 ·
  intro i W A hi hJ hA;refine (hJ.put A 1 1 _ hA (by rw [hlen i (by omega)]; omega)).mono (fun e w' ⟨h1, h2, h3⟩ => ⟨h1, ?_, h3⟩);rw [map_step f L i (by omega), ← List.append_assoc];exact h2
 rintro e w' ⟨h1, h2, h3⟩;refine ⟨h1, ?_, h3⟩;rw [hn, List.take_of_length_le (Nat.le_refl _)] at h2;rw [hn]; exact h2
theorem enters_put3 : EntersK 87 := entersK_of Tryz.func87 (by kernel_rfl) (by kernel_rfl)
theorem enters_put4 : EntersK 88 := entersK_of Tryz.func88 (by kernel_rfl) (by kernel_rfl)
theorem enters_put5 : EntersK 89 := entersK_of Tryz.func89 (by kernel_rfl) (by kernel_rfl)
theorem enters_put6 : EntersK 91 := entersK_of Tryz.func91 (by kernel_rfl) (by kernel_rfl)
theorem put5_some {x : S61} (hx : rightN x = true) (hm : x.f1 ≤ 65535) : segment_Put_5.f x.f0 x.f1 x.f2 x.f3 = some (delS x) := by
 obtain ⟨a0, a1, a2, a3, a4, a5, a6⟩ := (right_iff x).1 hx;have hw1 : wrap64 (65536 + x.f2) = 65536 + x.f2 := by unfold wrap64; omega
 have hw2 : wrap64 (65536 + x.f2 - x.f0) = 65536 + x.f2 - x.f0 := by unfold wrap64; omega
 have hm2 : (65536 + x.f2 - x.f0).tmod 65536 = (65536 + x.f2 - x.f0) % 65536 := Int.tmod_eq_emod_of_nonneg (by omega);unfold segment_Put_5.f;rw [row_some, Option.bind_some, hw1, hw2, hm2];unfold delS;split <;> rfl
theorem rest_more (L : List S61) (i : Nat) (h : i < L.length) : restS (L.take (i + 1)) = restS (L.take i) ++ List.replicate (cntX (atS L i)) (atS L i).f2 := by
 unfold restS;rw [List.take_add_one, List.getElem?_eq_getElem h, List.flatMap_append, atS_get L i h];simp
theorem off_value (L : List S61) (i : Nat) (h : i < L.length) : (offsS 0 L)[i]? = some (off6 (atS L i) (offI L.length i (restS (L.take i)).length)) := by
 rw [List.getElem?_eq_getElem (by rw [offs_length]; exact h), offs_at L i h, atS_get L i h, rest_length];unfold off6 offI;congr 1
 split
 · omega
 rfl
theorem offs_step (L : List S61) (i : Nat) (h : i < L.length) : (offsS 0 L).take (i + 1) = (offsS 0 L).take i ++ [off6 (atS L i) (offI L.length i (restS (L.take i)).length)] := by
 rw [List.take_add_one, off_value L i h]; rfl
theorem each_offs (w : World) (lb pb ob rb tb nb : Nat) (AL : Option Addr) (n c : Nat) (L : List S61) (W0 : World) (hn : n = L.length) (hn2 : n ≤ 70000) (hr : ∀ x ∈ L, rightN x = true) (hcr : cntR L ≤ 100000)
  (hlb : W0.heap[lb]? = some (.cells #[.slice AL n c] 22 (0, 0)))
  (hpb : W0.heap[pb]? = some (.cells #[.func (.func 85) #[] #[.pointer (some ⟨ob, 0, none⟩)]] 112 (0, 0)))
  (hC : Kd.C k61 W0 AL n L) (hT : ∀ a, AL = some a → ∃ cur, W0.heap[a.block]? = some (.cells cur 61 (0, 0))) (xs : List Int) (h0 : PutS w W0 ob rb tb nb n xs [] 0) (hl : xs.length + n ≤ 900000) :
  Calls Tryz.prog 86 #[.func (.func 91) #[] #[.pointer (some ⟨tb, 0, none⟩), .pointer (some ⟨nb, 0, none⟩), .pointer (some ⟨rb, 0, none⟩)], .pointer (some ⟨lb, 0, none⟩), .pointer (some ⟨pb, 0, none⟩)] W0 fun e w' => (∃ v, e = .returned v) ∧ PutS w w' ob rb tb nb n (xs ++ offsS 0 L) (restS L) (n : Int) ∧ Keep4 W0 w' := by
 have hlen : ∀ i, i ≤ n → (xs ++ (offsS 0 L).take i).length = xs.length + i := fun i hi => by rw [List.length_append, List.length_take, offs_length]; omega
 refine (each_walk 91 #[.pointer (some ⟨tb, 0, none⟩), .pointer (some ⟨nb, 0, none⟩), .pointer (some ⟨rb, 0, none⟩)] enters_put6 lb pb ob AL n c L W0 hn hn2 hlb hpb hC hT (fun i => off6 (atS L i) (offI n i (restS (L.take i)).length))
  (fun i W => PutS w W ob rb tb nb n (xs ++ (offsS 0 L).take i) (restS (L.take i)) (i : Int)) (fun i W => PutS w W ob rb tb nb n (xs ++ (offsS 0 L).take i) (restS (L.take (i + 1))) ((i : Int) + 1)) (by simpa [restS] using h0) (fun i W W' h hb => h.below hb) (fun i W W' h hb => h.below hb) ?_ ?_).mono ?_
 ·
  intro i W hi hJ _;have hil : i < L.length := by omega
  have hx : rightN (atS L i) = true := by rw [atS_get L i hil]; exact hr _ (List.getElem_mem _)
  have hq : (restS (L.take i)).length + cntX (atS L i) ≤ 10000000 := by
   have := cntR_step L i hil;rw [rest_length, atS_get L i hil]; omega
  refine (put6_walk w W ob rb tb nb n i _ _ (atS L i) hx hJ hi hn2 hq).mono (fun e w' ⟨h1, h2, h3⟩ => ⟨h1, ?_, h3⟩);show PutS w w' ob rb tb nb n _ (restS (L.take (i + 1))) _
  rw [rest_more L i hil];exact h2
 ·
  intro i W A hi hJ hA;refine (PutS.put hJ A 1 1 _ hA (by rw [hlen i (by omega)]; omega)).mono (fun e w' ⟨h1, h2, h3⟩ => ⟨h1, ?_, h3⟩);show PutS w w' ob rb tb nb n (xs ++ (offsS 0 L).take (i + 1)) (restS (L.take (i + 1))) ((i + 1 : Nat) : Int)
  rw [offs_step L i (by omega), ← List.append_assoc, ← hn];exact h2
 rintro e w' ⟨h1, h2, h3⟩;refine ⟨h1, ?_, h3⟩;have e1 : (offsS 0 L).take n = offsS 0 L := List.take_of_length_le (by rw [offs_length]; omega);have e2 : L.take n = L := List.take_of_length_le (by omega);rw [e1, e2] at h2;exact h2
end Go.Proofs.YtejdflndgnpkcaaGreat.P
end
section
namespace Go.Proofs.YtejdflndgnpkcaaGreat.P
open Go.RowKit PW PL PM
def lenTab : ByteArray := ⟨#[0, 1, 2, 2, 3, 3, 3, 3, 4, 4, 4, 4, 4, 4, 4, 4, 5, 5, 5, 5, 5, 5, 5, 5, 5, 5, 5, 5, 5, 5, 5, 5, 6, 6, 6, 6, 6, 6, 6, 6, 6, 6, 6, 6, 6, 6, 6, 6, 6, 6, 6, 6, 6, 6, 6, 6, 6, 6, 6, 6, 6, 6, 6, 6, 7, 7, 7, 7, 7, 7, 7, 7, 7, 7, 7, 7, 7, 7, 7, 7, 7, 7, 7, 7, 7, 7, 7, 7, 7, 7, 7, 7, 7, 7, 7, 7, 7, 7, 7, 7, 7, 7, 7, 7, 7, 7, 7, 7, 7, 7, 7, 7, 7, 7, 7, 7, 7, 7, 7, 7, 7, 7, 7, 7, 7, 7, 7, 7, 8, 8, 8, 8, 8, 8, 8, 8, 8, 8, 8, 8, 8, 8, 8, 8, 8, 8, 8, 8, 8, 8, 8, 8, 8, 8, 8, 8, 8, 8, 8, 8, 8, 8, 8, 8, 8, 8, 8, 8, 8, 8, 8, 8, 8, 8, 8, 8, 8, 8, 8, 8, 8, 8, 8, 8, 8, 8, 8, 8, 8, 8, 8, 8, 8, 8, 8, 8, 8, 8, 8, 8, 8, 8, 8, 8, 8, 8, 8, 8, 8, 8, 8, 8, 8, 8, 8, 8, 8, 8, 8, 8, 8, 8, 8, 8, 8, 8, 8, 8, 8, 8, 8, 8, 8, 8, 8, 8, 8, 8, 8, 8, 8, 8, 8, 8, 8, 8, 8, 8, 8, 8, 8, 8, 8, 8, 8, 8]⟩
theorem len_key (n : Nat) (h0 : 1 ≤ n) (h : n < 256) (h2 : n < lenTab.size) : (lenTab[n]'h2).toNat = n.log2 + 1 := by
 have key : ∀ m : Fin 256, 1 ≤ m.1 → (lenTab.data[m.1]'m.2).toNat = m.1.log2 + 1 := by decide +kernel
 exact key ⟨n, h⟩ h0
theorem log2_half (n : Nat) (h : 2 ≤ n) : n.log2 = (n / 2).log2 + 1 := by
 rw [Nat.log2_def, if_pos h]
theorem log2_byte (n : Nat) (h : 256 ≤ n) : n.log2 = (n / 256).log2 + 8 := by
 rw [log2_half n (by omega), log2_half (n / 2) (by omega), log2_half (n / 2 / 2) (by omega), log2_half (n / 2 / 2 / 2) (by omega), log2_half (n / 2 / 2 / 2 / 2) (by omega), log2_half (n / 2 / 2 / 2 / 2 / 2) (by omega), log2_half (n / 2 / 2 / 2 / 2 / 2 / 2) (by omega), log2_half (n / 2 / 2 / 2 / 2 / 2 / 2 / 2) (by omega)];have e : n / 2 / 2 / 2 / 2 / 2 / 2 / 2 / 2 = n / 256 := by omega
 rw [e]
theorem log2_small {n : Nat} (h : n < 65536) : n.log2 < 16 := by
 by_cases h0 : n = 0
 · subst h0; decide
 exact (Nat.log2_lt h0).2 (by simpa using h)
theorem ret_i64 {a b : Int} (h : a = b) : Ending.returned (.int .i64 a) = .returned (.int .i64 b) := by rw [h]
theorem len64_low (n : Nat) (w : World) (h0 : 1 ≤ n) (h1 : n < 256) :
  Calls Tryz.prog 115 #[.int .u64 (n : Int)] w fun e w' => e = .returned (.int .i64 ((n.log2 : Int) + 1)) ∧ w = w' := by
 have d1 : decide ((4294967296 : Int) ≤ (n : Int)) = false := decide_eq_false (by omega);have d2 : decide ((65536 : Int) ≤ (n : Int)) = false := decide_eq_false (by omega);have d3 : decide ((256 : Int) ≤ (n : Int)) = false := decide_eq_false (by omega);have a0 : (0 : Int) ≤ (n : Int) := by omega
 have a1 : (n : Int) < 256 := by omega
 have HN := hI (show 1 ≤ n ∧ n < 256 from ⟨h0, h1⟩);clear h0 h1;go_enter Tryz.func115, Tryz.ntmps115;go_wp2;go_ret;refine ⟨ret_i64 ?_, rfl⟩;have hk := len_key n HN.out.1 HN.out.2 (by show n < 256; exact HN.out.2);have hl := log2_small (n := n) (by have := HN.out; omega);show wrap64 (wrap64 (((lenTab[n]'(by show n < 256; exact HN.out.2)).toNat : Nat) : Int)) = _
 rw [hk];unfold wrap64; omega
theorem len64_high (n : Nat) (w : World) (h0 : 256 ≤ n) (h1 : n < 65536) :
  Calls Tryz.prog 115 #[.int .u64 (n : Int)] w fun e w' => e = .returned (.int .i64 ((n.log2 : Int) + 1)) ∧ w = w' := by
 have d1 : decide ((4294967296 : Int) ≤ (n : Int)) = false := decide_eq_false (by omega);have d2 : decide ((65536 : Int) ≤ (n : Int)) = false := decide_eq_false (by omega);have d3 : decide ((256 : Int) ≤ (n : Int)) = true := decide_eq_true (by omega);obtain ⟨q, hq⟩ : ∃ q, q = n / 256 := ⟨_, rfl⟩;have hqi : (n : Int) / 256 = (q : Int) := by omega
 have a0 : (0 : Int) ≤ (q : Int) := by omega
 have a1 : (q : Int) < 256 := by omega
 have hqm : (q : Int) % 256 = (q : Int) := by omega
 have HN := hI (show 1 ≤ q ∧ q < 256 by omega);have HL := hI (show n.log2 = q.log2 + 8 by rw [hq]; exact log2_byte n h0);clear h0 h1 hq;go_enter Tryz.func115, Tryz.ntmps115;go_wp2;go_ret;refine ⟨ret_i64 ?_, rfl⟩;have hk := len_key q HN.out.1 HN.out.2 (by show q < 256; exact HN.out.2);have hl := log2_small (n := q) (by have := HN.out; omega);show wrap64 (8 + wrap64 (((lenTab[q]'(by show q < 256; exact HN.out.2)).toNat : Nat) : Int)) = _
 rw [hk, HL.out];unfold wrap64; omega
theorem len_calls (n : Nat) (w : World) (h0 : 1 ≤ n) (h1 : n < 65536) :
  Calls Tryz.prog 84 #[.int .u64 (n : Int)] w fun e w' => e = .returned (.int .i64 ((n.log2 : Int) + 1)) ∧ w = w' := by
 have H := hI (show ∀ w, Calls Tryz.prog 115 #[.int .u64 (n : Int)] w fun e w' => e = .returned (.int .i64 ((n.log2 : Int) + 1)) ∧ w = w' from fun w => by
  by_cases h : n < 256
  · exact len64_low n w h0 h
  exact len64_high n w (by omega) h1)
 clear h0 h1;go_enter Tryz.func84, Tryz.ntmps84;go_wp2_with fail
 refine (H.out w).mono ?_;rintro e w1 ⟨rfl, rfl⟩;go_wp2;go_ret;exact ⟨rfl, rfl⟩
theorem sput_bad (A0 : Option Addr) (c0 : Nat) (l : List S61) (w : World) (hr0 : Kd.C k61 w A0 l.length l) (hc0 : l.length ≤ c0) (L : List S61) (k e : Int) (hs : segP l = (L, k, e)) (he : e ≠ 0) :
  Calls Tryz.prog 52 #[.slice A0 l.length c0] w fun e' w' => e' = .returned (.tuple #[.string ⟨#[]⟩, .int .i64 e]) ∧ Below w.heap.size w w' := by
 have H1 := hI (fun W (hW : Below w.heap.size w W) => segment_segments.calls A0 c0 l L k e W (Kd.C_below hr0 hW) hc0 (by unfold segment_segments.f; rw [hs]));have d1 : (e != 0) = true := by simpa using he
 clear hr0 hc0 hs he;go_enter Tryz.func52, Tryz.ntmps52;go_wp2_with fail
 have hbx := (Below.refl w.heap.size w).alloc (Nat.le_refl _) (.cells #[.slice A0 l.length c0] 22);refine (H1.out _ hbx).mono ?_;rintro e' w1 ⟨v1, rfl, hv1, hb1⟩;obtain ⟨A1, c1, rfl⟩ := Kd.R_slice hv1;have hlb := (hb1.block w.heap.size (by simp)).trans (World.alloc_heap_new w (.cells #[.slice A0 l.length c0] 22));obtain ⟨l0, l1⟩ := one_cell hlb;have HB := hI ((below_then hbx hbx.size hb1).setCell (p := ⟨w.heap.size, 0, none⟩) (Nat.le_refl _) (.slice A1 L.length c1));clear hv1 hb1 hbx hlb;go_wp2;go_ret2;exact ⟨rfl, HB.out⟩
structure Start (w W : World) (lb nb : Nat) (AL : Option Addr) (n c : Nat) (L : List S61) : Prop where
 lb : W.heap[lb]? = some (.cells #[.slice AL n c] 22 (0, 0))
 nb : W.heap[nb]? = some (.cells #[.int .i64 (n : Int)] 3 (0, 0))
 c : Kd.C k61 W AL n L
 t : ∀ a, AL = some a → ∃ cur, W.heap[a.block]? = some (.cells cur 61 (0, 0))
 b : Below w.heap.size w W
theorem Start.below {w W U : World} {lb nb : Nat} {AL : Option Addr} {n c : Nat} {L : List S61} (h : Start w W lb nb AL n c L) (hb : Below W.heap.size W U) : Start w U lb nb AL n c L :=
 ⟨(hb.block lb (blk_lt h.lb)).trans h.lb, (hb.block nb (blk_lt h.nb)).trans h.nb, Kd.C_below h.c hb, fun a e => by obtain ⟨cur, hc⟩ := h.t a e; exact ⟨cur, (hb.block a.block (blk_lt hc)).trans hc⟩, below_then h.b h.b.size hb⟩
structure Held (W : World) (lb pb ob : Nat) (AL : Option Addr) (n c : Nat) (L : List S61) : Prop where
 lb : W.heap[lb]? = some (.cells #[.slice AL n c] 22 (0, 0))
 pb : W.heap[pb]? = some (.cells #[.func (.func 85) #[] #[.pointer (some ⟨ob, 0, none⟩)]] 112 (0, 0))
 c : Kd.C k61 W AL n L
 t : ∀ a, AL = some a → ∃ cur, W.heap[a.block]? = some (.cells cur 61 (0, 0))
theorem Held.keep {W U : World} {lb pb ob : Nat} {AL : Option Addr} {n c : Nat} {L : List S61} (h : Held W lb pb ob AL n c L) (k : Keep4 W U) : Held U lb pb ob AL n c L := by
 refine ⟨k.k _ _ _ (by decide) (by decide) h.lb, k.k _ _ _ (by decide) (by decide) h.pb, ⟨h.c.1, h.c.2.1, fun hp => ?_⟩, fun a e => ?_⟩
 ·
  obtain ⟨ad, e, hj⟩ := h.c.2.2 hp;refine ⟨ad, e, fun j p hjp => ?_⟩;obtain ⟨cs, h1, h2, h3⟩ := hj j p hjp;obtain ⟨cur, hcur⟩ := h.t ad e;have hblk : U.heap[ad.block]? = W.heap[ad.block]? := (k.k _ _ _ (by decide) (by decide) hcur).trans hcur.symm;refine ⟨cs, h1, ?_, fun i u hu => ?_⟩
  ·
   have e2 := k61_open h2;rw [e2]; exact k61_mk U p
  have eb : (ad.add (j * k61.sz + i)).block = ad.block := by unfold Addr.add; split <;> rfl
  exact (cell_of (by rw [eb]; exact hblk)).trans (h3 i u hu)
 obtain ⟨cur, hc⟩ := h.t a e;exact ⟨cur, k.k _ _ _ (by decide) (by decide) hc⟩
theorem store_fresh (W : World) (f : FuncId) (caps : Array Value) (t : TypeId) : (store ⟨W.heap.size, 0, none⟩ (.func (.func f) #[] caps)).run Tryz.prog (W.alloc (.cells #[.nilFunc] t)) = .ok () (W.alloc (.cells #[.func (.func f) #[] caps] t)) := by
 rw [run_store _ _ _ _ _ rfl];have e := World.alloc_heap_new W (.cells #[.nilFunc] t);obtain ⟨c0, f0⟩ := one_cell e;rw [c0];dsimp only
 rw [f0];simp [go_sem]
theorem out_parts (L : List S61) (k : Nat) : headS L.length k ++ L.map (fun x => x.f1) ++ [0] ++ L.map (fun x => x.f0) ++ L.map delS ++ offsS 0 L ++ restS L = outS L k := by
 unfold outS;simp only [List.append_assoc]
theorem shl_two (h : Nat) (hh : h < 17) : IntKind.i64.wrap (2 * 2 ^ h) = 2 * ((2 ^ h : Nat) : Int) := by
 have h1 : (2 : Nat) ^ h ≤ 2 ^ 16 := Nat.pow_le_pow_right (by decide) (by omega);have h2 : ((2 ^ h : Nat) : Int) = (2 : Int) ^ h := by simp
 rw [← h2, i64_w];have h3 : (2 : Nat) ^ 16 = 65536 := by decide
 rw [h3] at h1;generalize (2 : Nat) ^ h = p at *
 unfold wrap64; omega
theorem sput_ok (A0 : Option Addr) (c0 : Nat) (l : List S61) (w : World) (hr0 : Kd.C k61 w A0 l.length l) (hc0 : l.length ≤ c0) (L : List S61) (k : Int) (hs : segP l = (L, k, 0)) :
  Calls Tryz.prog 52 #[.slice A0 l.length c0] w fun e' w' => e' = .returned (.tuple #[.string ⟨(bytesS (outS L (cntR L))).toArray⟩, .int .i64 0]) ∧ Below w.heap.size w w' := by
 have hz1 := (zero_of_info (P := Tryz.prog) (t := 35) (v := .slice none 0 0) (n := 1) (by kernel_rfl)).1;have hz2 := (zero_of_info (P := Tryz.prog) (t := 3) (v := .int .i64 0) (n := 1) (by kernel_rfl)).1;have hz3 := (zero_of_info (P := Tryz.prog) (t := 112) (v := .nilFunc) (n := 1) (by kernel_rfl)).1;obtain ⟨hi, hL, hk, hcl, hG⟩ := segP_good hs;have H1 := hI (fun W (hW : Below w.heap.size w W) => segment_segments.calls A0 c0 l L k 0 W (Kd.C_below hr0 hW) hc0 (by unfold segment_segments.f; rw [hs]));have HG := hI hG;have HK := hI hk;obtain ⟨n, hn⟩ : ∃ n, n = L.length := ⟨_, rfl⟩;have HN := hI hn;have HNB := hI (show 1 ≤ n ∧ n ≤ 8190 ∧ cntR L ≤ 32767 by have h1 := hG.n; have h2 := hG.s; omega);obtain ⟨h, hh⟩ : ∃ h, h = n.log2 := ⟨_, rfl⟩;have HH := hI hh;have HHB := hI (show h < 17 by rw [hh]; have := log2_small (n := n) (by have := HNB.out; omega); omega);have HKB := hI (show 0 ≤ k ∧ k ≤ 32767 by rw [hk]; have := HNB.out; omega);obtain ⟨P, hP⟩ : ∃ P : Int, P = 2 * ((2 ^ h : Nat) : Int) := ⟨_, rfl⟩;have HPP := hI hP
 have HPB := hI (show 0 ≤ P ∧ P ≤ 2 * (n : Int) by
  have h2 := (log2_bd (n := n) (by have := HNB.out; omega)).1;rw [← hh] at h2;rw [hP];generalize (2 : Nat) ^ h = p at *
  omega)
 clear hr0 hc0 hs hi hL hk hcl hG hn hh hP;go_enter Tryz.func52, Tryz.ntmps52;go_wp2_with fail
 have hbx := (Below.refl w.heap.size w).alloc (Nat.le_refl _) (.cells #[.slice A0 l.length c0] 22);refine (H1.out _ hbx).mono ?_;rintro e' w1 ⟨v1, rfl, hv1, hb1⟩;obtain ⟨A1, c1, rfl, _, hC1⟩ := Kd.R_reads hv1;rw [← HN.out] at hC1 ⊢;obtain ⟨lb, hlbz⟩ : ∃ lb, lb = w.heap.size := ⟨_, rfl⟩;have hlb := (hb1.block w.heap.size (by simp)).trans (World.alloc_heap_new w (.cells #[.slice A0 l.length c0] 22));rw [← hlbz] at hlb ⊢;obtain ⟨l0, l1⟩ := one_cell hlb;obtain ⟨w2, hw2⟩ : ∃ w2, w2 = w1.setCell ⟨lb, 0, none⟩ (.slice A1 n c1) := ⟨_, rfl⟩;have hlb2 := set_one hlb (.slice A1 n c1);have hB2 := (below_then hbx hbx.size hb1).setCell (p := ⟨lb, 0, none⟩) (Nat.le_of_eq hlbz.symm) (.slice A1 n c1)
 have hty : ∀ a, A1 = some a → lb < a.block ∧ ∃ cur, w1.heap[a.block]? = some (.cells cur 61 (0, 0)) := fun a ha => by
  subst ha;obtain ⟨_, inner, ho, _⟩ := hv1;have h1 := own_base ho a.block (by simp [Value.ownBlock]);obtain ⟨cur, hc⟩ := own_typed ho a.block (by simp [Value.ownBlock]);simp only [World.size_alloc] at h1;exact ⟨by omega, cur, hc⟩
 have hC2 : Kd.C k61 w2 A1 n L := by
  refine ⟨hC1.1, hC1.2.1, fun hp => ?_⟩;obtain ⟨ad, e, hj⟩ := hC1.2.2 hp;refine ⟨ad, e, fun j p hjp => ?_⟩;obtain ⟨cs, h1, h2, h3⟩ := hj j p hjp;have hne := (hty ad e).1;have hblk : w2.heap[ad.block]? = w1.heap[ad.block]? := by rw [hw2]; exact Below.heap_setCell w1 _ _ _ (show ad.block ≠ lb by omega)
  refine ⟨cs, h1, ?_, fun i u hu => ?_⟩
  ·
   have e2 := k61_open h2;rw [e2]; exact k61_mk w2 p
  have eb : (ad.add (j * k61.sz + i)).block = ad.block := by unfold Addr.add; split <;> rfl
  exact (cell_of (by rw [eb]; exact hblk)).trans (h3 i u hu)
 have hT2 : ∀ a, A1 = some a → ∃ cur, w2.heap[a.block]? = some (.cells cur 61 (0, 0)) := fun a ha => by
  obtain ⟨h1, cur, hc⟩ := hty a ha;exact ⟨cur, by rw [hw2]; exact (Below.heap_setCell w1 _ _ _ (show a.block ≠ lb by omega)).trans hc⟩
 rw [← hw2] at hlb2 hB2;obtain ⟨nb, hnbz⟩ : ∃ nb, nb = w2.heap.size := ⟨_, rfl⟩;obtain ⟨w3, hw3⟩ : ∃ w3, w3 = w2.alloc (.cells #[.int .i64 (n : Int)] 3) := ⟨_, rfl⟩;have hb23 : Below w2.heap.size w2 w3 := by rw [hw3]; exact (Below.refl _ w2).alloc (Nat.le_refl _) _
 have HST := hI (show Start w w3 lb nb A1 n c1 L from ⟨(hb23.block lb (blk_lt hlb2)).trans hlb2, by rw [hw3, hnbz]; exact World.alloc_heap_new w2 _, Kd.C_below hC2 hb23, fun a e => by obtain ⟨cur, hc⟩ := hT2 a e; exact ⟨cur, (hb23.block a.block (blk_lt hc)).trans hc⟩, below_then hB2 hB2.size hb23⟩);obtain ⟨s0, _⟩ := one_cell hlb2;have HLW := hI (show w.heap.size ≤ lb from Nat.le_of_eq hlbz.symm);clear hv1 hb1 hC1 hlb hbx hty hC2 hT2 hb23 hlb2 hB2 hlbz;go_upto_region 4 with (fail)
 rw [← hw2];clear l0 l1 hw2;go_upto_region 5 with (fail)
 rw [← hw3, ← hnbz];clear s0 hw3 hnbz;obtain ⟨s0, _⟩ := one_cell HST.out.nb;have hcv : ((n : Int) % 18446744073709551616) = (n : Int) := by have := HNB.out; omega
 go_wp2_with fail
 refine (len_calls n w3 HNB.out.1 (by have := HNB.out; omega)).mono ?_;rintro e' w3' ⟨rfl, rfl⟩;rw [← HH.out];have hwh : wrap64 ((h : Int) + 1 - 1) = (h : Int) := by have := HHB.out; unfold wrap64; omega
 have hwh2 : wrap64 ((h : Int)) = (h : Int) := by have := HHB.out; unfold wrap64; omega
 clear s0 hcv;have hstf := store_fresh (w3.alloc (.cells #[.slice none 0 0] 35)) 85 #[.pointer (some ⟨w3.heap.size, 0, none⟩)] 112;rw [World.size_alloc] at hstf;go_upto_region 8 with (fail)
 rw [hwh2];clear hstf;obtain ⟨ob, hob⟩ : ∃ ob, ob = w3.heap.size := ⟨_, rfl⟩;obtain ⟨pb, hpb⟩ : ∃ pb, pb = ob + 1 := ⟨_, rfl⟩;obtain ⟨w4, hw4⟩ : ∃ w4, w4 = (w3.alloc (.cells #[.slice none 0 0] 35)).alloc (.cells #[.func (.func 85) #[] #[.pointer (some ⟨ob, 0, none⟩)]] 112) := ⟨_, rfl⟩;have hb34 : Below w3.heap.size w3 w4 := by rw [hw4]; exact ((Below.refl _ w3).alloc (Nat.le_refl _) _).alloc (by simp) _
 have hst4 := HST.out.below hb34;have ho4 : w4.heap[ob]? = some (.cells #[.slice none 0 0] 35 (0, 0)) := by rw [hw4, hob]; exact (Below.heap_alloc _ _ _ (by simp)).trans (World.alloc_heap_new w3 _)
 have hp4 : w4.heap[pb]? = some (.cells #[.func (.func 85) #[] #[.pointer (some ⟨ob, 0, none⟩)]] 112 (0, 0)) := by
  rw [hw4, hpb, hob];have e := World.alloc_heap_new (w3.alloc (.cells #[.slice none 0 0] 35)) (.cells #[.func (.func 85) #[] #[.pointer (some ⟨w3.heap.size, 0, none⟩)]] 112);rw [World.size_alloc] at e;exact e
 have HOW := hI (show OutW w w4 ob nb n [] from ⟨⟨_, ho4, Kd.R_nil _ _ _ _ _⟩, hst4.nb, hst4.b, by have := HST.out.b.size; omega⟩);have HHE := hI (show Held w4 lb pb ob A1 n c1 L from ⟨hst4.lb, hp4, hst4.c, hst4.t⟩);rw [← hob, ← hpb, ← hw4];clear hob hpb hw4 hb34 hst4 ho4 hp4 hwh hwh2;refine wp_mono (Q := Exit.then ?_ (fun _ _ _ => False)) ?_ ?_;rotate_left 2
 ·
  intro e a w h;cases e with
  | normal => exact h
  | _ => exact (show False from h).elim
 refine bg_ 19 (fun u => u.heap[pb]? = some (.cells #[.func (.func 85) #[] #[.pointer (some ⟨ob, 0, none⟩)]] 112 (0, 0)) ∧ u.heap[nb]? = some (.cells #[.int .i64 (n : Int)] 3 (0, 0))) ⟨HHE.out.pb, HOW.out.n⟩ (fun hHeld => ?_);obtain ⟨w5, hw5⟩ : ∃ w5, w5 = w4.drew := ⟨_, rfl⟩;have hb5 : Below w4.heap.size w4 w5 := by rw [hw5]; exact below_drew1 (Below.refl _ _)
 rw [← hw5] at hHeld ⊢;have HO5 := hI (HOW.out.below hb5);have HE5 := hI (HHE.out.keep (Keep4.below hb5));clear hw5 hb5;have g1 : IntKind.i64.wrap (8 * (n : Int)) = 8 * (n : Int) := by rw [i64_w]; have := HNB.out; unfold wrap64; omega
 have g2 : IntKind.i64.wrap (16 + 8 * (n : Int)) = 16 + 8 * (n : Int) := by rw [i64_w]; have := HNB.out; unfold wrap64; omega
 have g3 : IntKind.i64.wrap (2 * k) = 2 * k := by rw [i64_w]; have := HKB.out; unfold wrap64; omega
 have g4 : IntKind.i64.wrap (16 + 8 * (n : Int) + 2 * k) = 16 + 8 * (n : Int) + 2 * k := by rw [i64_w]; have := HKB.out; have := HNB.out; unfold wrap64; omega
 have g5 : IntKind.i64.wrap (2 * (n : Int)) = 2 * (n : Int) := by rw [i64_w]; have := HNB.out; unfold wrap64; omega
 have g6 : IntKind.i64.wrap (2 * (n : Int) - P) = 2 * (n : Int) - P := by rw [i64_w]; have := HPB.out; have := HNB.out; unfold wrap64; omega
 have hh0 : (0 : Int) ≤ (h : Int) := by omega
 refine pS_ 4 33 ?_;refine pS_ 9 38 ?_;refine pS_ 11 40 ?_;refine pS_ 14 43 ?_;refine take_ (i := 0) (N := some 29) (v := ?_) (a' := ?_) #[true, false, false, false, true, false, false, false, false, true, false, true, false, false, true, false, false, false, false] rfl rfl (by kernel_rfl) (fun _ _ _ h => h) (Or.inl ⟨by rfl, ?_⟩) hHeld ?_ ?_;rotate_left
 ·
  rintro w' s0;obtain ⟨t0, t1⟩ := s0;have q0 := (one_cell t0).1;have q1 := (one_cell t1).1;clear t0 t1;go_simp
  with_reducible rfl
 rotate_left
 ·
  simp only [Act.put, List.setIfInBounds_toArray, List.set_cons_zero, List.set_cons_succ, i64_w, i32_w];rfl
 refine take_ (i := 1) (N := some 30) (v := ?_) (a' := ?_) #[true, true, false, false, true, false, false, false, false, true, false, true, false, false, true, false, false, false, false] rfl rfl (by kernel_rfl) (fun _ _ _ h => h) (Or.inl ⟨by rfl, ?_⟩) hHeld ?_ ?_;rotate_left
 ·
  rintro w' s0;obtain ⟨t0, t1⟩ := s0;have q0 := (one_cell t0).1;have q1 := (one_cell t1).1;clear t0 t1;go_simp
  with_reducible rfl
 rotate_left
 ·
  simp only [Act.put, List.setIfInBounds_toArray, List.set_cons_zero, List.set_cons_succ, i64_w, i32_w];rfl
 refine take_ (i := 7) (N := some 36) (v := ?_) (a' := ?_) #[true, true, false, false, true, false, false, true, false, true, false, true, false, false, true, false, false, false, false] rfl rfl (by kernel_rfl) (fun _ _ _ h => h) (Or.inl ⟨by rfl, ?_⟩) hHeld ?_ ?_;rotate_left
 ·
  rintro w' s0;obtain ⟨t0, t1⟩ := s0;have q0 := (one_cell t0).1;have q1 := (one_cell t1).1;clear t0 t1;go_simp
  with_reducible rfl
 rotate_left
 ·
  simp only [Act.put, List.setIfInBounds_toArray, List.set_cons_zero, List.set_cons_succ, i64_w, i32_w];rfl
 refine take_ (i := 12) (N := some 41) (v := ?_) (a' := ?_) #[true, true, false, false, true, false, false, true, false, true, false, true, true, false, true, false, false, false, false] rfl rfl (by kernel_rfl) (fun _ _ _ h => h) (Or.inl ⟨by rfl, ?_⟩) hHeld ?_ ?_;rotate_left
 ·
  rintro w' s0;obtain ⟨t0, t1⟩ := s0;have q0 := (one_cell t0).1;have q1 := (one_cell t1).1;clear t0 t1;go_simp
  with_reducible rfl
 rotate_left
 ·
  simp only [Act.put, List.setIfInBounds_toArray, List.set_cons_zero, List.set_cons_succ, i64_w, i32_w];rfl
 refine pS_ 2 31 ?_;refine pS_ 3 32 ?_;refine pS_ 5 34 ?_;refine pS_ 6 35 ?_;refine pS_ 8 37 ?_;refine pS_ 13 42 ?_;refine pS_ 10 39 ?_;refine pS_ 15 44 ?_
 have hsh : wrap64 (2 * (2 : Int) ^ min h 64) = P := by
  rw [Nat.min_eq_left (by have := HHB.out; omega), ← i64_w, shl_two h HHB.out]; exact HPP.out.symm
 rw [hsh];clear hsh;refine pS_ 16 45 ?_;refine oS_ 17 46 (fun K hK => ?_);refine vS_ ?_;have hbl : Below w5.heap.size w5 (w5.alloc (.cells #[.int .i64 4, .int .i64 (16 + 8 * (n : Int) + 2 * k), .int .i64 0, .int .i64 (2 * (n : Int)), .int .i64 P, .int .i64 (h : Int), .int .i64 (2 * (n : Int) - P)] 3)) := (Below.refl _ w5).alloc (Nat.le_refl _) _
 have HA := hI (show Kd.C (Kd.int .i64) (w5.alloc (.cells #[.int .i64 4, .int .i64 (16 + 8 * (n : Int) + 2 * k), .int .i64 0, .int .i64 (2 * (n : Int)), .int .i64 P, .int .i64 (h : Int), .int .i64 (2 * (n : Int) - P)] 3)) (some ⟨w5.heap.size, 0, none⟩) 7 (headS n (cntR L)) by
  have e := lit_C w5 [4, 16 + 8 * (n : Int) + 2 * k, 0, 2 * (n : Int), P, (h : Int), 2 * (n : Int) - P] (by simp [maxLen])
  have e2 : headS n (cntR L) = [4, 16 + 8 * (n : Int) + 2 * k, 0, 2 * (n : Int), P, (h : Int), 2 * (n : Int) - P] := by
   unfold headS;rw [HPP.out, HK.out, ← HH.out]
  rw [e2];exact e)
 have HO6 := hI (HO5.out.below hbl);have HE6 := hI (HE5.out.keep (Keep4.below hbl));refine hK.out _ _ ⟨HE6.out.pb, HO6.out.n⟩ (fun hHeld2 => ?_);clear hK hbl;refine nS_ ?_;obtain ⟨w6, hw6⟩ : ∃ w6, w6 = w5.alloc (.cells #[.int .i64 4, .int .i64 (16 + 8 * (n : Int) + 2 * k), .int .i64 0, .int .i64 (2 * (n : Int)), .int .i64 P, .int .i64 (h : Int), .int .i64 (2 * (n : Int) - P)] 3) := ⟨_, rfl⟩;obtain ⟨b6, hb6⟩ : ∃ b6, b6 = w5.heap.size := ⟨_, rfl⟩;rw [← hw6] at HA HO6 HE6 hHeld2 ⊢;rw [← hb6] at HA ⊢;clear hw6 hb6 g1 g2 g3 g4 g5 g6;refine oS_ 18 47 (fun K hK => ?_);go_simp
 refine (HO6.out.put _ 7 7 _ HA.out (by simp)).mono ?_;rintro e' w7 ⟨⟨v7, rfl⟩, ho7, hk7⟩;rw [List.nil_append] at ho7;have HO7 := hI ho7;have HE7 := hI (HE6.out.keep hk7);dsimp only
 refine hK.out _ _ ⟨HE7.out.pb, HO7.out.n⟩ (fun hHeld3 => ?_);clear hK ho7 hk7;refine dS_ ?_;have HLR := hI (show ∀ x ∈ L, rightN x = true ∧ x.f1 ≤ 65535 from fun x hx => ⟨HG.out.r x hx, HG.out.m x hx⟩);have HHL := hI (show (headS n (cntR L)).length = 7 by rfl);clear hHeld hHeld2 hHeld3 hh0;go_wp2_with fail
 refine (each_quiet 87 enters_put3 (fun x => x.f1) (fun x W _ _ => segment_Put_3.calls x.f0 x.f1 x.f2 x.f3 x.f1 W rfl) w lb pb ob nb A1 n c1 L w7 HN.out (by have := HNB.out; omega) HLR.out HE7.out.lb HE7.out.pb HE7.out.c HE7.out.t _ HO7.out (by rw [HHL.out]; have := HNB.out; omega)).mono ?_;rintro e' w8 ⟨⟨v8, rfl⟩, ho8, hk8⟩;obtain ⟨xs1, hxs1⟩ : ∃ xs1, xs1 = headS n (cntR L) ++ L.map (fun (x : S61) => x.f1) := ⟨_, rfl⟩;have HX1 := hI (show xs1.length = 7 + n by rw [hxs1, List.length_append, HHL.out, List.length_map, ← HN.out]);rw [← hxs1] at ho8;have HO8 := hI ho8;have HE8 := hI (HE7.out.keep hk8);have HXS1 := hI hxs1;clear ho8 hk8 hxs1;obtain ⟨q0, _⟩ := one_cell HE8.out.pb;go_wp2_with fail
 have hbl9 : Below w8.heap.size w8 (w8.alloc (.cells #[.int .i64 0] 3)) := (Below.refl _ w8).alloc (Nat.le_refl _) _;have HE9 := hI (HE8.out.keep (Keep4.below hbl9));refine ((HO8.out.below hbl9).put _ 1 1 [0] (lit_C w8 [0] (by simp [maxLen])) (by rw [HX1.out]; have := HNB.out; omega)).mono ?_;rintro e' w9 ⟨⟨v9, rfl⟩, ho9, hk9⟩;have HO9 := hI ho9;have HE10 := hI (HE9.out.keep hk9);clear ho9 hk9 hbl9 q0;have HX2 := hI (show (xs1 ++ [0]).length = 8 + n by rw [List.length_append, HX1.out]; simp; omega);go_wp2_with fail
 refine (each_quiet 88 enters_put4 (fun x => x.f0) (fun x W _ _ => segment_Put_4.calls x.f0 x.f1 x.f2 x.f3 x.f0 W rfl) w lb pb ob nb A1 n c1 L w9 HN.out (by have := HNB.out; omega) HLR.out HE10.out.lb HE10.out.pb HE10.out.c HE10.out.t _ HO9.out (by rw [HX2.out]; have := HNB.out; omega)).mono ?_;rintro e' w10 ⟨⟨v10, rfl⟩, ho10, hk10⟩;have HO10 := hI ho10;have HE11 := hI (HE10.out.keep hk10);clear ho10 hk10;have HX3 := hI (show (xs1 ++ [0] ++ L.map (fun (x : S61) => x.f0)).length = 8 + 2 * n by rw [List.length_append, HX2.out, List.length_map, ← HN.out]; omega);go_wp2_with fail
 refine (each_quiet 89 enters_put5 delS (fun x W hx hm => segment_Put_5.calls x.f0 x.f1 x.f2 x.f3 (delS x) W (put5_some hx hm)) w lb pb ob nb A1 n c1 L w10 HN.out (by have := HNB.out; omega) HLR.out HE11.out.lb HE11.out.pb HE11.out.c HE11.out.t _ HO10.out (by rw [HX3.out]; have := HNB.out; omega)).mono ?_;rintro e' w11 ⟨⟨v11, rfl⟩, ho11, hk11⟩;have HE12 := hI (HE11.out.keep hk11);obtain ⟨xs4, hxs4⟩ : ∃ xs4, xs4 = xs1 ++ [0] ++ L.map (fun (x : S61) => x.f0) ++ L.map delS := ⟨_, rfl⟩;have HX4 := hI (show xs4.length = 8 + 3 * n by rw [hxs4, List.length_append, HX3.out, List.length_map, ← HN.out]; omega);rw [← hxs4] at ho11;have HXS4 := hI hxs4;have HO11 := hI ho11;clear ho11 hk11 hxs4;obtain ⟨rb, hrb⟩ : ∃ rb, rb = w11.heap.size := ⟨_, rfl⟩;obtain ⟨tb, htb⟩ : ∃ tb, tb = rb + 1 := ⟨_, rfl⟩;obtain ⟨w12, hw12⟩ : ∃ w12, w12 = (w11.alloc (.cells #[.slice none 0 0] 35)).alloc (.cells #[.int .i64 0] 3) := ⟨_, rfl⟩;have hbl12 : Below w11.heap.size w11 w12 := by rw [hw12]; exact ((Below.refl _ w11).alloc (Nat.le_refl _) _).alloc (by simp) _
 have hr12 : w12.heap[rb]? = some (.cells #[.slice none 0 0] 35 (0, 0)) := by rw [hw12, hrb]; exact (Below.heap_alloc _ _ _ (by simp)).trans (World.alloc_heap_new w11 _)
 have ht12 : w12.heap[tb]? = some (.cells #[.int .i64 0] 3 (0, 0)) := by
  rw [hw12, htb, hrb];have e := World.alloc_heap_new (w11.alloc (.cells #[.slice none 0 0] 35)) (.cells #[.int .i64 0] 3);rw [World.size_alloc] at e;exact e
 have hps : PutS w w12 ob rb tb nb n xs4 [] 0 := by
  obtain ⟨vo, h1, h3⟩ := HO11.out.o;have hsz := HO11.out.b.size;have hobl := blk_lt h1;have hnbl := blk_lt HO11.out.n;refine ⟨⟨vo, .slice none 0 0, (hbl12.block ob hobl).trans h1, hr12, Kd.R_below (Kd.R_mono (Kd.R_bound h3) (fun k hk => ⟨hk.1, fun e => by have := hk.2.2.1; omega⟩)) hbl12, Kd.R_nil _ _ _ _ _, fun k _ e => by simp [Value.ownBlock] at e⟩, ht12, (hbl12.block nb hnbl).trans HO11.out.n, below_then HO11.out.b hsz hbl12, HO11.out.s, by omega, by omega, by omega, by omega⟩
 have HPS := hI hps;have HE13 := hI (HE12.out.keep (Keep4.below hbl12));clear hbl12 hr12 ht12 hps;go_wp2_with fail
 rw [← hrb, ← htb, ← hw12];clear hrb htb hw12;refine (each_offs w lb pb ob rb tb nb A1 n c1 L w12 HN.out (by have := HNB.out; omega) (fun x hx => (HLR.out x hx).1) (by have := HNB.out; omega) HE13.out.lb HE13.out.pb HE13.out.c HE13.out.t xs4 HPS.out (by rw [HX4.out]; have := HNB.out; omega)).mono ?_;rintro e' w13 ⟨⟨v13, rfl⟩, ho13, hk13⟩;have HO13 := hI ho13;have HE14 := hI (HE13.out.keep hk13);clear ho13 hk13;have HX5 := hI (show (xs4 ++ offsS 0 L).length = 8 + 4 * n by rw [List.length_append, HX4.out, offs_length, ← HN.out]; omega);obtain ⟨q0, _⟩ := one_cell HE14.out.pb;obtain ⟨vo, vr, h1, h2, h3, h4, h5⟩ := HO13.out.o;obtain ⟨Ar, kr, rfl⟩ := Kd.R_slice h4;obtain ⟨q1, _⟩ := one_cell h2;obtain ⟨_, _, hne, _, hCr⟩ := Kd.R_reads h4;injection hne with hn1 hn2 hn3
 subst hn1;have HCR := hI hCr;have HRL := hI (rest_length L);clear h1 h2 h3 h4 h5 hn2 hn3 hCr;obtain ⟨m, hm⟩ : ∃ m, m = (restS L).length := ⟨_, rfl⟩;rw [← hm] at q1 HCR HRL;clear hm;go_wp2_with fail
 refine (PutS.put HO13.out _ m kr _ HCR.out (by rw [HX5.out, HRL.out]; have := HNB.out; omega)).mono ?_;rintro e' w14 ⟨⟨v14, rfl⟩, ho14, hk14⟩;obtain ⟨out, hout⟩ : ∃ out, out = xs4 ++ offsS 0 L ++ restS L := ⟨_, rfl⟩;rw [← hout] at ho14
 have HOUT := hI (show out = outS L (cntR L) by
  rw [hout, HXS4.out, HXS1.out, HN.out]; exact out_parts L (cntR L))
 have HB14 := hI ho14.b;obtain ⟨vo, vr, h1, h2, h3, h4, h5⟩ := ho14.o;obtain ⟨Ao, ko, rfl⟩ := Kd.R_slice h3;obtain ⟨_, _, hne, hko, hCo⟩ := Kd.R_reads h3;injection hne with hn1 hn2 hn3
 subst hn1;subst hn3;have HKO' := hI hko;obtain ⟨q2, _⟩ := one_cell h1;obtain ⟨m2, hm2⟩ : ∃ m2, m2 = out.length := ⟨_, rfl⟩;rw [← hm2] at hCo q2 h1;have HM2 := hI hm2;have HKO := hI (show m2 ≤ ko by rw [hm2]; exact HKO'.out);have HCO := hI hCo;have HOB := hI h1
 have HML := hI (show m2 ≤ 131072 by
  rw [hm2, HOUT.out, out_length]; have := HNB.out; have := HN.out; omega)
 clear h1 h2 h3 h4 h5 hn2 hCo ho14 hk14 hout hm2 q0 q1 q2 hko HKO';go_upto_region 18 with (fail)
 refine wp_mono (Q := Exit.then ?_ (fun _ _ _ => False)) ?_ ?_;rotate_left 2
 ·
  intro e a w h;cases e with
  | normal => exact h
  | _ => exact (show False from h).elim
 refine bg_ 10 (fun u => Below w14.heap.size w14 u) (below_drew1 (Below.refl _ _)) (fun hHeld => ?_);obtain ⟨wd, hwd⟩ : ∃ wd, wd = w14.drew := ⟨_, rfl⟩;rw [← hwd] at hHeld ⊢;clear hwd;have hm0 : (0 : Int) ≤ (m2 : Int) := by omega
 refine take_ (i := 1) (N := some 65) (v := ?_) (a' := ?_) #[false, true, false, false, false, false, false, false, false, false] rfl rfl (by kernel_rfl) (fun _ _ _ h => h) (Or.inl ⟨by rfl, ?_⟩) hHeld ?_ ?_;rotate_left
 ·
  rintro w' s0;have q0 := (one_cell ((s0.block ob (blk_lt HOB.out)).trans HOB.out)).1;go_simp
  with_reducible rfl
 rotate_left
 ·
  simp only [Act.put, List.setIfInBounds_toArray, List.set_cons_zero, List.set_cons_succ, i64_w, i32_w];rfl
 refine take_ (i := 4) (N := some 68) (v := ?_) (a' := ?_) #[false, true, false, false, true, false, false, false, false, false] rfl rfl (by kernel_rfl) (fun _ _ _ h => h) (Or.inl ⟨by rfl, ?_⟩) hHeld ?_ ?_;rotate_left
 ·
  rintro w' s0;have q0 := (one_cell ((s0.block ob (blk_lt HOB.out)).trans HOB.out)).1;go_simp
  with_reducible rfl
 rotate_left
 ·
  simp only [Act.put, List.setIfInBounds_toArray, List.set_cons_zero, List.set_cons_succ, i64_w, i32_w];rfl
 refine pS_ 2 66 ?_;refine oS_ 0 64 (fun K hK => ?_);refine vS_ ?_;have hbl : Below wd.heap.size wd (wd.alloc (.cells #[.int .i64 2] 3)) := (Below.refl _ wd).alloc (Nat.le_refl _) _;have HA := hI (show Kd.C (Kd.int .i64) (wd.alloc (.cells #[.int .i64 2] 3)) (some ⟨wd.heap.size, 0, none⟩) ([2] : List Int).length [2] from lit_C wd [2] (by simp [maxLen]));refine hK.out _ _ (below_then hHeld hHeld.size hbl) (fun hHeld2 => ?_);clear hK hbl;refine nS_ ?_;obtain ⟨we, hwe⟩ : ∃ we, we = wd.alloc (.cells #[.int .i64 2] 3) := ⟨_, rfl⟩;obtain ⟨b7, hb7⟩ : ∃ b7, b7 = wd.heap.size := ⟨_, rfl⟩;rw [← hwe] at HA hHeld2 ⊢;rw [← hb7] at HA ⊢;clear hwe hb7;refine oS_ 3 67 (fun K hK => ?_);go_simp
 go_at_call 21
 refine (slices_Repeat_int_int.calls _ 1 [2] (m2 : Int) (repN [2] m2) we HA.out (Nat.le_refl _) (rep_told m2 HML.out)).mono ?_;rintro e' wf ⟨vf, rfl, hrf, hbf⟩;obtain ⟨Af, kf, rfl⟩ := Kd.R_slice hrf;obtain ⟨_, _, hne, hkl, hCf⟩ := Kd.R_reads hrf;injection hne with hn1 hn2 hn3
 subst hn1;subst hn3;have hrl : (repN [2] m2).length = m2 := rep_one 2 m2;rw [hrl] at hCf hkl ⊢;have HCF := hI hCf;have HKL := hI hkl;dsimp only
 refine hK.out _ _ (below_then hHeld2 hHeld2.size hbf) (fun hHeld3 => ?_);clear hK hrf hbf hCf hn2 hrl hkl;refine oS_ 5 69 (fun K hK => ?_);go_simp
 go_at_call 31
 have hput := put_words out (by rw [HOUT.out]; exact out_fits HG.out) (by rw [← HM2.out]; have := HML.out; omega);rw [← HM2.out] at hput;have hrl : (repN [2] m2).length = m2 := rep_one 2 m2;have hcall := bin_Put.calls Af kf (repN [2] m2) Ao ko out _ _ wf (by rw [hrl]; exact HCF.out) (by rw [hrl]; exact HKL.out) (by rw [← HM2.out]; exact Kd.C_below HCO.out hHeld3) (by rw [← HM2.out]; exact HKO.out) hput;rw [hrl, ← HM2.out] at hcall;refine hcall.mono ?_;rintro e' wg ⟨rfl, hbg⟩;have HBG := hI (below_then hHeld3 hHeld3.size hbg);dsimp only
 refine hK.out _ _ HBG.out (fun _ => ?_);clear hK hbg hput hrl hcall;refine pS_ 6 70 ?_;refine pS_ 7 71 ?_;refine pS_ 8 2 ?_;refine pS_ 9 3 ?_;refine dS_ ?_;have HBE := hI (HB14.out.trans (HBG.out.mono HB14.out.size));rw [HOUT.out];go_wp2;go_ret2;exact ⟨rfl, HBE.out⟩
def segment_Put.f (l0 : List S61) : Option (ByteArray × Int) := some (putS l0)
theorem segment_Put.calls (A0 : Option Addr) (c0 : Nat) (l0 : List S61) (r1 : ByteArray) (r2 : Int) (w : World) (hr0 : Kd.C k61 w A0 l0.length l0) (hc0 : l0.length ≤ c0) (h : segment_Put.f l0 = some (r1, r2)) :
  Calls Tryz.prog 52 #[.slice A0 l0.length c0] w fun e w' => e = .returned (.tuple #[.string r1, .int .i64 r2]) ∧ Below w.heap.size w w' := by
 have hr := Option.some.inj h;obtain ⟨L, k, e, hs⟩ : ∃ L k e, segP l0 = (L, k, e) := ⟨_, _, _, rfl⟩;by_cases he : e = 0
 ·
  subst he;have h0 : (putS l0).2 = 0 := by unfold putS; rw [hs, if_neg (show ¬ ((0 : Int) ≠ 0) by decide)]
  obtain ⟨L', k', hs', hp⟩ := putS_ok h0;rw [hs] at hs';obtain ⟨rfl, _⟩ := Prod.mk.inj hs';have h1 : r1 = ⟨(bytesS (outS L (cntR L))).toArray⟩ := by rw [← hp, hr]
  have h2 : r2 = 0 := by rw [← h0, hr]
  rw [h1, h2];exact sput_ok A0 c0 l0 w hr0 hc0 L k hs
 have hp : putS l0 = (⟨#[]⟩, e) := by unfold putS; rw [hs, if_pos he]
 rw [hp] at hr;obtain ⟨rfl, rfl⟩ := Prod.mk.inj hr;exact sput_bad A0 c0 l0 w hr0 hc0 L k e hs he
end Go.Proofs.YtejdflndgnpkcaaGreat.P
end
