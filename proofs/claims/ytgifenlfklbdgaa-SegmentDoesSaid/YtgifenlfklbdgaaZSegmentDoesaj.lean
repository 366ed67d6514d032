/- A part of the proof of the law SegmentDoes: the words, contracts and plain facts that it needs, no more. Each says its own condition. -/
import Derived.Test.YtgifenlfklbdgaaZSegmentDoesah
import Derived.Test.YtgifenlfklbdgaaZSegmentDoesai
namespace Go.Proofs.Ytgifenlfklbdgaa.P
open Go.RowKit Go.Proofs.YtgifenlfklbdgaaW.PrintWords Go.Proofs.YtgifenlfklbdgaaW.PrintLast Go.Proofs.YtgifenlfklbdgaaW.PrintMore
set_option linter.unusedSimpArgs false
set_option linter.unusedVariables false
theorem rep_replicate (v : Int) : ∀ k, repN [v] k = List.replicate k v
  | 0 => rfl
  | k + 1 => by rw [repN, rep_replicate v k, List.replicate_succ]; rfl
structure PutS (w W : World) (ob rb tb nb n : Nat) (xs ys : List Int) (a : Int) : Prop where
  o : ∃ vo vr, W.heap[ob]? = some (.cells #[vo] 54 (0, 0)) ∧ W.heap[rb]? = some (.cells #[vr] 54 (0, 0)) ∧ Kd.R (Kd.int .i64) 3 W w.heap.size (fun k => k ≠ nb ∧ k ≠ tb) vo xs ∧ Kd.R (Kd.int .i64) 3 W w.heap.size (fun k => k ≠ nb ∧ k ≠ tb) vr ys ∧ (∀ k, vo.ownBlock = some k → vr.ownBlock ≠ some k)
  t : W.heap[tb]? = some (.cells #[.int .i64 a] 3 (0, 0))
  n : W.heap[nb]? = some (.cells #[.int .i64 (n : Int)] 3 (0, 0))
  b : Below w.heap.size w W
  s : w.heap.size ≤ ob ∧ w.heap.size ≤ rb ∧ w.heap.size ≤ tb ∧ ob ≠ rb ∧ tb ≠ nb
namespace PutS
variable {w W U : World} {ob rb tb nb n : Nat} {xs ys : List Int} {a : Int}
theorem below (h : PutS w W ob rb tb nb n xs ys a) (hb : Below W.heap.size W U) : PutS w U ob rb tb nb n xs ys a := by
  obtain ⟨vo, vr, h1, h2, h3, h4, h5⟩ := h.o
  exact ⟨⟨vo, vr, (hb.block ob (blk_lt h1)).trans h1, (hb.block rb (blk_lt h2)).trans h2, Kd.R_below h3 hb, Kd.R_below h4 hb, h5⟩, (hb.block tb (blk_lt h.t)).trans h.t, (hb.block nb (blk_lt h.n)).trans h.n, below_then h.b h.b.size hb, h.s⟩
theorem typed {b c : Nat} {cs ct : Array Value} {e f : TypeId} (hb : W.heap[b]? = some (.cells cs e (0, 0))) (hc : W.heap[c]? = some (.cells ct f (0, 0))) (hef : e ≠ f) : b ≠ c := fun h => by
  subst h
  rw [hb] at hc
  injection hc with hc
  injection hc with _ hc
  exact hef hc
theorem count (h : PutS w W ob rb tb nb n xs ys a) (a1 : Int) : PutS w (W.setCell ⟨tb, 0, none⟩ (.int .i64 a1)) ob rb tb nb n xs ys a1 := by
  obtain ⟨vo, vr, h1, h2, h3, h4, h5⟩ := h.o
  have hne1 : ob ≠ tb := typed h1 h.t (by decide)
  have hne2 : rb ≠ tb := typed h2 h.t (by decide)
  exact ⟨⟨vo, vr, (Below.heap_setCell W _ _ _ hne1).trans h1, (Below.heap_setCell W _ _ _ hne2).trans h2, Kd.R_far h3 (fun k hk => hk.2) _, Kd.R_far h4 (fun k hk => hk.2) _, h5⟩, set_one h.t _, (Below.heap_setCell W _ _ _ (fun e => h.s.2.2.2.2 e.symm)).trans h.n, h.b.setCell h.s.2.2.1 _, h.s⟩
theorem puts {vo vr v1 : Value} {zs : List Int} (h : PutS w W ob rb tb nb n xs ys a) (h1 : W.heap[ob]? = some (.cells #[vo] 54 (0, 0))) (h2 : W.heap[rb]? = some (.cells #[vr] 54 (0, 0))) (h3 : Kd.R (Kd.int .i64) 3 W w.heap.size (fun k => k ≠ nb ∧ k ≠ tb) vo xs) (h4 : Kd.R (Kd.int .i64) 3 W w.heap.size (fun k => k ≠ nb ∧ k ≠ tb) vr ys)
    (h5 : ∀ k, vo.ownBlock = some k → vr.ownBlock ≠ some k) (hv : Kd.R (Kd.int .i64) 3 U w.heap.size (fun k => k ≠ nb ∧ k ≠ tb) v1 zs) (hb : Below w.heap.size w U) (hg : W.grownBy U vo.ownBlock) (hat : v1.ownBlock = vo.ownBlock ∨ ∃ b, v1.ownBlock = some b ∧ W.heap.size ≤ b) :
    PutS w (U.setCell ⟨ob, 0, none⟩ v1) ob rb tb nb n zs ys a ∧ Keep4 W (U.setCell ⟨ob, 0, none⟩ v1) := by
  have hty := row_typed h3
  have hne : ∀ b cs t, W.heap[b]? = some (.cells cs t (0, 0)) → (t ≠ 3 ∨ b = nb ∨ b = tb) → some b ≠ vo.ownBlock := fun b cs t hb ht e => by
    obtain ⟨_, _, hok, cells, hc⟩ := hty b e.symm
    rcases ht with ht | ht | ht
    · rw [hb] at hc
      injection hc with hc
      injection hc with _ hc
      exact ht hc
    · exact hok.1 ht
    · exact hok.2 ht
  have keep : ∀ b cs t, W.heap[b]? = some (.cells cs t (0, 0)) → (t ≠ 3 ∨ b = nb ∨ b = tb) → U.heap[b]? = some (.cells cs t (0, 0)) := fun b cs t hb ht => (hg.block b (blk_lt hb) (hne b cs t hb ht)).trans hb
  have u1 := keep ob _ _ h1 (.inl (by decide))
  have u2 := keep rb _ _ h2 (.inl (by decide))
  have ut := keep tb _ _ h.t (.inr (.inr rfl))
  have un := keep nb _ _ h.n (.inr (.inl rfl))
  have hot : ob ≠ tb := typed h1 h.t (by decide)
  have hon : ob ≠ nb := typed h1 h.n (by decide)
  have hobt : ∀ {e : TypeId} {cs : Array Value} {b : Nat}, U.heap[b]? = some (.cells cs e (0, 0)) → e ≠ 54 → b ≠ ob := fun hb he => typed hb u1 he
  have r4 : Kd.R (Kd.int .i64) 3 U w.heap.size (fun k => k ≠ nb ∧ k ≠ tb) vr ys := by
    have r5 : Kd.R (Kd.int .i64) 3 W w.heap.size (fun k => (k ≠ nb ∧ k ≠ tb) ∧ vr.ownBlock = some k) vr ys := Kd.R_of_own (Kd.own_of_R h4) (fun k hk => ⟨h4.1 k hk, hk⟩)
    refine Kd.R_mono (Kd.R_move r5 (fun k hk => ?_)) (fun k hk => hk.1)
    exact hg.block k (row_typed h4 k hk.2).1 (fun e => h5 k e.symm hk.2)
  refine ⟨⟨⟨v1, vr, set_one u1 _, (Below.heap_setCell U _ _ _ (fun e => h.s.2.2.2.1 e.symm)).trans u2, ?_, ?_, fun k hk e => ?_⟩, (Below.heap_setCell U _ _ _ (fun e => hot e.symm)).trans ut, (Below.heap_setCell U _ _ _ (fun e => hon e.symm)).trans un, hb.setCell h.s.1 _, h.s⟩, ?_⟩
  · exact Kd.R_set hv u1 (by simp [Kd.int, Kd.scalar]) _ _
  · exact Kd.R_set r4 u1 (by simp [Kd.int, Kd.scalar]) _ _
  · rcases hat with hat | ⟨b', hb', hle⟩
    · exact h5 k (by rw [← hat]; exact hk) e
    · rw [hb'] at hk
      injection hk with hk
      have := (row_typed h4 k e).1
      omega
  · exact (Keep4.grown hg (fun k e => (hty k e).2.2.2)).trans (Keep4.set u1 (.inr rfl) 0 v1)
theorem swap (h : PutS w W ob rb tb nb n xs ys a) : PutS w W rb ob tb nb n ys xs a := by
  obtain ⟨vo, vr, h1, h2, h3, h4, h5⟩ := h.o
  exact ⟨⟨vr, vo, h2, h1, h4, h3, fun k hk e => h5 k e hk⟩, h.t, h.n, h.b, h.s.2.1, h.s.1, h.s.2.2.1, fun e => h.s.2.2.2.1 e.symm, h.s.2.2.2.2⟩
end PutS
def off6 (x : S42) (v : Int) : Int := if rowN x = true then v else 0
theorem off6_row {x : S42} (h : rowN x = true) (v : Int) : off6 x v = v := by unfold off6; rw [if_pos h]
theorem off6_one {x : S42} (h : rowN x = false) (v : Int) : off6 x v = 0 := by unfold off6; rw [h, if_neg Bool.false_ne_true]
def offI (n i q : Nat) : Int := 2 * ((n : Int) - ((i : Int) + 1) + 1) + 2 * (q : Int)
set_option maxRecDepth 100000 in
set_option maxHeartbeats 2000000 in
theorem put6_walk (w W : World) (ob rb tb nb n i : Nat) (xs ys : List Int) (x : S42) (hx : rightN x = true) (h : PutS w W ob rb tb nb n xs ys (i : Int)) (hi : i < n) (hn : n ≤ 70000) (hq : ys.length + cntX x ≤ 10000000) :
    Calls Try.prog 98 #[.agg #[.int .i64 x.f0, .int .i64 x.f1, .int .i64 x.f2, .int .i64 x.f3], .pointer (some ⟨tb, 0, none⟩), .pointer (some ⟨nb, 0, none⟩), .pointer (some ⟨rb, 0, none⟩)] W fun e w' =>
      e = .returned (.int .i64 (off6 x (offI n i ys.length))) ∧ PutS w w' ob rb tb nb n xs (ys ++ List.replicate (cntX x) x.f2) ((i : Int) + 1) ∧ Keep4 W w' := by
  have H := Lib.hid h
  have HXB := Lib.hid ((right_iff x).1 hx)
  have HI := Lib.hid hi
  have HN := Lib.hid hn
  have HQ := Lib.hid hq
  have hw1 : wrap64 ((i : Int) + 1) = (i : Int) + 1 := by unfold wrap64; omega
  obtain ⟨wx, hwx⟩ : ∃ wx, wx = W.alloc (.cells #[.int .i64 x.f0, .int .i64 x.f1, .int .i64 x.f2, .int .i64 x.f3] 42) := ⟨_, rfl⟩
  obtain ⟨b4, hb4⟩ : ∃ b4, b4 = W.heap.size := ⟨_, rfl⟩
  have hbx : Below W.heap.size W wx := by rw [hwx]; exact (Below.refl _ W).alloc (Nat.le_refl _) _
  have HX0 := Lib.hid (h.below hbx)
  have hx4 : wx.heap[b4]? = some (.cells #[.int .i64 x.f0, .int .i64 x.f1, .int .i64 x.f2, .int .i64 x.f3] 42 (0, 0)) := by rw [hwx, hb4]; exact World.alloc_heap_new W _
  obtain ⟨t0, t1⟩ := one_cell HX0.out.t
  have HX1 := Lib.hid (HX0.out.count ((i : Int) + 1))
  have hk1 := (Keep4.below hbx).trans (Keep4.set HX0.out.t (.inl rfl) 0 (.int .i64 ((i : Int) + 1)))
  have HK1 := Lib.hid hk1
  have hx5 := (Below.heap_setCell wx ⟨tb, 0, none⟩ (.int .i64 ((i : Int) + 1)) b4 (PutS.typed hx4 HX0.out.t (by decide))).trans hx4
  obtain ⟨wy, hwy⟩ : ∃ wy, wy = wx.setCell ⟨tb, 0, none⟩ (.int .i64 ((i : Int) + 1)) := ⟨_, rfl⟩
  rw [← hwy] at HX1 HK1 hx5
  have y0 : wy.cell? ⟨b4, 0, none⟩ = some (.int .i64 x.f0) := (blk_cell hx5 0).trans rfl
  have y1 : wy.cell? ⟨b4, 1, none⟩ = some (.int .i64 x.f1) := (blk_cell hx5 1).trans rfl
  have y2 : wy.cell? ⟨b4, 2, none⟩ = some (.int .i64 x.f2) := (blk_cell hx5 2).trans rfl
  have y3 : wy.cell? ⟨b4, 3, none⟩ = some (.int .i64 x.f3) := (blk_cell hx5 3).trans rfl
  have HX5 := Lib.hid hx5
  clear h hx hi hn hq hbx hx4 hk1 hx5
  go_enter Try.func98, Try.ntmps98
  go_upto_region 1 with (fail)
  rw [← hwx, ← hb4]
  clear hwx hb4
  go_upto_region 2 with (fail)
  rw [← hwy]
  clear hwy t0 t1
  go_wp2_with fail
  refine (segment_row.calls x.f0 x.f1 x.f2 x.f3 (rowN x) _ (row_some x)).mono ?_
  rintro e w1 ⟨rfl, hb1⟩
  have H2 := Lib.hid (HX1.out.below hb1)
  have HK2 := Lib.hid (HK1.out.trans (Keep4.below hb1))
  have HX6 := Lib.hid ((hb1.block b4 (blk_lt HX5.out)).trans HX5.out)
  clear hb1 y0 y1 y2 y3
  have HRN := Lib.hid (show ∀ b, rowN x = b → rowN x = b from fun _ h => h)
  cases hrow : rowN x with
  | false =>
    have hcx : cntX x = 0 := by unfold cntX; rw [hrow, if_neg (by decide)]
    have HCX := Lib.hid hcx
    have HROW := Lib.hid hrow
    clear hrow hcx
    go_wp2
    go_ret
    rw [HCX.out, List.replicate_zero, List.append_nil]
    refine ⟨?_, H2.out, HK2.out⟩
    rw [off6_one HROW.out]
    rfl
  | true =>
    have HCX := Lib.hid (show (cntX x : Int) = x.f1 - x.f0 + 1 by
      have := HXB.out
      have := (row_iff x).1 hrow
      unfold cntX; rw [hrow, if_pos rfl]; omega)
    obtain ⟨n0, n1⟩ := one_cell H2.out.n
    obtain ⟨t0, t1⟩ := one_cell H2.out.t
    obtain ⟨vo, vr, ho, hr, h3, h4, h5⟩ := H2.out.o
    obtain ⟨Ar, kr, rfl⟩ := Kd.R_slice h4
    obtain ⟨r0, r1⟩ := one_cell hr
    obtain ⟨q, hqq⟩ : ∃ q, q = ys.length := ⟨_, rfl⟩
    rw [← hqq] at r0 hr h4 h5 HQ
    have HQQ := Lib.hid hqq
    have HO := Lib.hid ho
    have HR := Lib.hid hr
    have HR3 := Lib.hid h3
    have HR4 := Lib.hid h4
    have HR5 := Lib.hid h5
    have u1 : wrap64 ((n : Int) - ((i : Int) + 1)) = (n : Int) - ((i : Int) + 1) := by have := HN.out; have := HI.out; unfold wrap64; omega
    have u2 : wrap64 ((n : Int) - ((i : Int) + 1) + 1) = (n : Int) - ((i : Int) + 1) + 1 := by have := HN.out; have := HI.out; unfold wrap64; omega
    have u3 : wrap64 (2 * ((n : Int) - ((i : Int) + 1) + 1)) = 2 * ((n : Int) - ((i : Int) + 1) + 1) := by have := HN.out; have := HI.out; unfold wrap64; omega
    have u4 : wrap64 (2 * (q : Int)) = 2 * (q : Int) := by have := HQ.out; unfold wrap64; omega
    have HU5 := Lib.hid (show wrap64 (2 * ((n : Int) - ((i : Int) + 1) + 1) + 2 * (q : Int)) = offI n i q by have := HQ.out; have := HN.out; have := HI.out; unfold offI wrap64; omega)
    have HROW := Lib.hid hrow
    clear hrow ho hr h3 h4 h5 hqq
    go_upto_region 5 with (fail)
    refine wp_mono (Q := Exit.then ?_ (fun _ _ _ => False)) ?_ ?_
    rotate_left 2
    · intro e a w h
      cases e with
      | normal => exact h
      | _ => exact (show False from h).elim
    clear n0 n1 t0 t1 r0 r1
    refine start_ (n := 13) (S := fun u => u.heap[b4]? = some (.cells #[.int .i64 x.f0, .int .i64 x.f1, .int .i64 x.f2, .int .i64 x.f3] 42 (0, 0)) ∧ u.heap[rb]? = some (.cells #[.slice Ar q kr] 54 (0, 0))) (ds := [12]) #[false, false, false, false, false, false, false, false, false, false, false, false, false] (by kernel_rfl) rfl rfl ⟨HX6.out, HR.out⟩ (fun hHeld => ?_)
    obtain ⟨wd, hwd⟩ : ∃ wd, wd = w1.drew := ⟨_, rfl⟩
    have hbd : Below w1.heap.size w1 wd := by rw [hwd]; exact below_drew1 (Below.refl _ _)
    rw [← hwd] at hHeld ⊢
    have HBD := Lib.hid hbd
    clear hwd hbd
    have v1_ : IntKind.i64.wrap (x.f1 - x.f0) = x.f1 - x.f0 := by rw [i64_w]; have := HXB.out; unfold wrap64; omega
    have v2_ : IntKind.i64.wrap (x.f1 - x.f0 + 1) = x.f1 - x.f0 + 1 := by rw [i64_w]; have := HXB.out; unfold wrap64; omega
    have v3_ : wrap64 (x.f1 - x.f0) = x.f1 - x.f0 := by have := HXB.out; unfold wrap64; omega
    have v4_ : wrap64 (x.f1 - x.f0 + 1) = x.f1 - x.f0 + 1 := by have := HXB.out; unfold wrap64; omega
    refine pure_ (i := 1) (N := some 22) (v := ?_) (a' := ?_) #[false, true, false, false, false, false, false, false, false, false, false, false, false] rfl rfl (by kernel_rfl) (fun _ _ _ h => h) (Or.inl ⟨by rfl, ?_⟩) ?_ ?_
    rotate_left
    · intro w'
      go_simp
      with_reducible rfl
    rotate_left
    · simp only [Act.put, List.setIfInBounds_toArray, List.set_cons_zero, List.set_cons_succ, i64_w, i32_w]
      rfl
    refine pure_ (i := 4) (N := some 25) (v := ?_) (a' := ?_) #[false, true, false, false, true, false, false, false, false, false, false, false, false] rfl rfl (by kernel_rfl) (fun _ _ _ h => h) (Or.inl ⟨by rfl, ?_⟩) ?_ ?_
    rotate_left
    · intro w'
      go_simp
      with_reducible rfl
    rotate_left
    · simp only [Act.put, List.setIfInBounds_toArray, List.set_cons_zero, List.set_cons_succ, i64_w, i32_w]
      rfl
    refine pure_ (i := 6) (N := some 27) (v := ?_) (a' := ?_) #[false, true, false, false, true, false, true, false, false, false, false, false, false] rfl rfl (by kernel_rfl) (fun _ _ _ h => h) (Or.inl ⟨by rfl, ?_⟩) ?_ ?_
    rotate_left
    · intro w'
      go_simp
      with_reducible rfl
    rotate_left
    · simp only [Act.put, List.setIfInBounds_toArray, List.set_cons_zero, List.set_cons_succ, i64_w, i32_w]
      rfl
    refine take_ (i := 0) (N := some 21) (v := ?_) (a' := ?_) #[true, true, false, false, true, false, true, false, false, false, false, false, false] rfl rfl (by kernel_rfl) (fun _ _ _ h => h) (Or.inl ⟨by rfl, ?_⟩) hHeld ?_ ?_
    rotate_left
    · rintro w' s0
      obtain ⟨t0, t1⟩ := s0
      have q0 := (one_cell t1).1
      have z0 : w'.cell? ⟨b4, 0, none⟩ = some (.int .i64 x.f0) := (blk_cell t0 0).trans rfl
      have z1 : w'.cell? ⟨b4, 1, none⟩ = some (.int .i64 x.f1) := (blk_cell t0 1).trans rfl
      have z2 : w'.cell? ⟨b4, 2, none⟩ = some (.int .i64 x.f2) := (blk_cell t0 2).trans rfl
      clear t0 t1
      go_simp
      with_reducible rfl
    rotate_left
    · simp only [Act.put, List.setIfInBounds_toArray, List.set_cons_zero, List.set_cons_succ, i64_w, i32_w]
      rfl
    refine take_ (i := 2) (N := some 23) (v := ?_) (a' := ?_) #[true, true, true, false, true, false, true, false, false, false, false, false, false] rfl rfl (by kernel_rfl) (fun _ _ _ h => h) (Or.inl ⟨by rfl, ?_⟩) hHeld ?_ ?_
    rotate_left
    · rintro w' s0
      obtain ⟨t0, t1⟩ := s0
      have q0 := (one_cell t1).1
      have z0 : w'.cell? ⟨b4, 0, none⟩ = some (.int .i64 x.f0) := (blk_cell t0 0).trans rfl
      have z1 : w'.cell? ⟨b4, 1, none⟩ = some (.int .i64 x.f1) := (blk_cell t0 1).trans rfl
      have z2 : w'.cell? ⟨b4, 2, none⟩ = some (.int .i64 x.f2) := (blk_cell t0 2).trans rfl
      clear t0 t1
      go_simp
      with_reducible rfl
    rotate_left
    · simp only [Act.put, List.setIfInBounds_toArray, List.set_cons_zero, List.set_cons_succ, i64_w, i32_w]
      rfl
    refine take_ (i := 5) (N := some 26) (v := ?_) (a' := ?_) #[true, true, true, false, true, true, true, false, false, false, false, false, false] rfl rfl (by kernel_rfl) (fun _ _ _ h => h) (Or.inl ⟨by rfl, ?_⟩) hHeld ?_ ?_
    rotate_left
    · rintro w' s0
      obtain ⟨t0, t1⟩ := s0
      have q0 := (one_cell t1).1
      have z0 : w'.cell? ⟨b4, 0, none⟩ = some (.int .i64 x.f0) := (blk_cell t0 0).trans rfl
      have z1 : w'.cell? ⟨b4, 1, none⟩ = some (.int .i64 x.f1) := (blk_cell t0 1).trans rfl
      have z2 : w'.cell? ⟨b4, 2, none⟩ = some (.int .i64 x.f2) := (blk_cell t0 2).trans rfl
      clear t0 t1
      go_simp
      with_reducible rfl
    rotate_left
    · simp only [Act.put, List.setIfInBounds_toArray, List.set_cons_zero, List.set_cons_succ, i64_w, i32_w]
      rfl
    refine take_ (i := 7) (N := some 28) (v := ?_) (a' := ?_) #[true, true, true, false, true, true, true, true, false, false, false, false, false] rfl rfl (by kernel_rfl) (fun _ _ _ h => h) (Or.inl ⟨by rfl, ?_⟩) hHeld ?_ ?_
    rotate_left
    · rintro w' s0
      obtain ⟨t0, t1⟩ := s0
      have q0 := (one_cell t1).1
      have z0 : w'.cell? ⟨b4, 0, none⟩ = some (.int .i64 x.f0) := (blk_cell t0 0).trans rfl
      have z1 : w'.cell? ⟨b4, 1, none⟩ = some (.int .i64 x.f1) := (blk_cell t0 1).trans rfl
      have z2 : w'.cell? ⟨b4, 2, none⟩ = some (.int .i64 x.f2) := (blk_cell t0 2).trans rfl
      clear t0 t1
      go_simp
      with_reducible rfl
    rotate_left
    · simp only [Act.put, List.setIfInBounds_toArray, List.set_cons_zero, List.set_cons_succ, i64_w, i32_w]
      rfl
    refine pure_ (i := 8) (N := some 29) (v := ?_) (a' := ?_) #[true, true, true, false, true, true, true, true, true, false, false, false, false] rfl rfl (by kernel_rfl) (fun _ _ _ h => h) (Or.inl ⟨by rfl, ?_⟩) ?_ ?_
    rotate_left
    · intro w'
      go_simp
      with_reducible rfl
    rotate_left
    · simp only [Act.put, List.setIfInBounds_toArray, List.set_cons_zero, List.set_cons_succ, i64_w, i32_w]
      rfl
    refine pure_ (i := 9) (N := some 30) (v := ?_) (a' := ?_) #[true, true, true, false, true, true, true, true, true, true, false, false, false] rfl rfl (by kernel_rfl) (fun _ _ _ h => h) (Or.inl ⟨by rfl, ?_⟩) ?_ ?_
    rotate_left
    · intro w'
      go_simp
      with_reducible rfl
    rotate_left
    · simp only [Act.put, List.setIfInBounds_toArray, List.set_cons_zero, List.set_cons_succ, i64_w, i32_w]
      rfl
    refine one_ (i := 3) (N := some 24) #[true, true, true, true, true, true, true, true, true, true, false, false, false] rfl rfl (by kernel_rfl) (by decide) (fun K hK => ?_)
    refine value_ (w1 := ?_) (v := ?_) (by rfl) rfl ?_ ?_
    rotate_left 2
    · go_simp
      constructor
      · rfl
      · rfl
    have hbl : Below wd.heap.size wd (wd.alloc (.cells #[.int .i64 x.f2] 3)) := (Below.refl _ wd).alloc (Nat.le_refl _) _
    have HA := Lib.hid (show Kd.C (Kd.int .i64) (wd.alloc (.cells #[.int .i64 x.f2] 3)) (some ⟨wd.heap.size, 0, none⟩) ([x.f2] : List Int).length [x.f2] from lit_C wd [x.f2] (by simp [maxLen]))
    have HBL := Lib.hid (HBD.out.trans (hbl.mono HBD.out.size))
    refine hK.out _ _ ⟨(hbl.block b4 (blk_lt hHeld.1)).trans hHeld.1, (hbl.block rb (blk_lt hHeld.2)).trans hHeld.2⟩ (fun hHeld2 => ?_)
    clear hK hbl
    refine norm_ (a' := ?_) ?_ ?_
    rotate_left
    · show Act.put _ (some 24) _ = _
      simp only [Act.put, List.setIfInBounds_toArray, List.set_cons_zero, List.set_cons_succ, i64_w, i32_w]
      rfl
    obtain ⟨we, hwe⟩ : ∃ we, we = wd.alloc (.cells #[.int .i64 x.f2] 3) := ⟨_, rfl⟩
    obtain ⟨b6, hb6⟩ : ∃ b6, b6 = wd.heap.size := ⟨_, rfl⟩
    rw [← hwe] at HA HBL hHeld2 ⊢
    rw [← hb6] at HA ⊢
    clear hwe hb6
    refine one_ (i := 10) (N := some 31) #[true, true, true, true, true, true, true, true, true, true, true, false, false] rfl rfl (by kernel_rfl) (by decide) (fun K hK => ?_)
    go_simp
    go_at_call 59
    refine (slices_Repeat_int_int.calls _ 1 [x.f2] (x.f1 - x.f0 + 1) (List.replicate (cntX x) x.f2) we HA.out (Nat.le_refl _) (by
      unfold slices_Repeat_int_int.f slices_Repeat.f
      have h1 := HCX.out
      have h2 := HQ.out
      rw [if_pos ⟨by omega, by omega, by simp, by simp; omega⟩, rep_replicate, ← h1, Int.toNat_natCast])).mono ?_
    rintro e wf ⟨vf, rfl, hrf, hbf⟩
    obtain ⟨Af, kf, rfl⟩ := Kd.R_slice hrf
    obtain ⟨_, _, hne, _, hCf⟩ := Kd.R_reads hrf
    injection hne with hn1 hn2 hn3
    subst hn1
    have HCF := Lib.hid hCf
    have HBF := Lib.hid (HBL.out.trans (hbf.mono HBL.out.size))
    dsimp only
    refine hK.out _ _ ⟨(hbf.block b4 (blk_lt hHeld2.1)).trans hHeld2.1, (hbf.block rb (blk_lt hHeld2.2)).trans hHeld2.2⟩ (fun hHeld3 => ?_)
    clear hK hrf hbf hCf hn2 hn3
    have HPF := Lib.hid (H2.out.below HBF.out)
    have HKF := Lib.hid (HK2.out.trans (Keep4.below HBF.out))
    have HR3F := Lib.hid (Kd.R_below HR3.out HBF.out)
    have HR4F := Lib.hid (Kd.R_below HR4.out HBF.out)
    have HOF := Lib.hid ((HBF.out.block ob (blk_lt HO.out)).trans HO.out)
    obtain ⟨m, hm⟩ : ∃ m, m = (List.replicate (cntX x) x.f2).length := ⟨_, rfl⟩
    rw [← hm] at HCF ⊢
    have HM := Lib.hid (show m = cntX x by rw [hm, List.length_replicate])
    clear hm
    refine one_ (i := 11) (N := some 32) #[true, true, true, true, true, true, true, true, true, true, true, true, false] rfl rfl (by kernel_rfl) (by decide) (fun K hK => ?_)
    refine Kd.R_append_rows_step (Kd.int .i64) (w0 := w) w.heap.size (by rfl) (.tmp 21) (.tmp 31) 54 3 (.int .i64 0) 8 rfl Try.underlying54 intInfo rfl (by decide) (by decide) _ ys (List.replicate (cntX x) x.f2) _ _ _ (fun k => k ≠ nb ∧ k ≠ tb) (fun _ => False) rfl rfl HR4F.out HCF.out (fun _ _ h => h) (fun _ h => h.elim) (fun k hk => ⟨fun e => by have := blk_lt HPF.out.n; omega, fun e => by have := blk_lt HPF.out.t; omega⟩) HPF.out.b HPF.out.b.size (by have := HQ.out; have := HM.out; have := HQQ.out; omega) ?_
    intro v9 wa hva hba hga hat
    obtain ⟨hps, hks⟩ := PutS.puts (PutS.swap HPF.out) hHeld3.2 HOF.out HR4F.out HR3F.out (fun k hk e => HR5.out k e hk) hva hba hga hat
    have HPS := Lib.hid (PutS.swap hps)
    have HKS := Lib.hid (HKF.out.trans hks)
    have hty := row_typed HR4F.out
    have hrbn : ∀ {b : Nat} {cs : Array Value} {t : TypeId}, wf.heap[b]? = some (.cells cs t (0, 0)) → t ≠ 3 → wa.heap[b]? = some (.cells cs t (0, 0)) := fun {b cs t} hb ht => (hga.block b (blk_lt hb) (fun e => by
      obtain ⟨_, _, _, cells, hc⟩ := hty b e.symm
      rw [hb] at hc
      injection hc with hc
      injection hc with _ hc
      exact ht hc)).trans hb
    obtain ⟨A9, k9, rfl⟩ := Kd.R_slice hva
    refine hK.out _ _ ⟨hrbn hHeld3.1 (by decide), hrbn hHeld3.2 (by decide)⟩ (fun hHeld4 => ?_)
    clear hK hva hba hga hat hps hks hty hrbn
    generalize (ys ++ List.replicate (cntX x) x.f2).length = q9 at HPS HKS ⊢
    refine norm_ (a' := ?_) ?_ ?_
    rotate_left
    · show Act.put _ (some 32) _ = _
      simp only [Act.put, List.setIfInBounds_toArray, List.set_cons_zero, List.set_cons_succ, i64_w, i32_w]
      rfl
    refine last_ (i := 12) (N := none) #[true, true, true, true, true, true, true, true, true, true, true, true, true] rfl rfl (by kernel_rfl) (by decide) (fun K hK => ?_)
    obtain ⟨e0, e1⟩ := one_cell hHeld4.2
    refine skip_ (w1 := ?_) (by rfl) rfl ?_ ?_
    rotate_left
    · go_simp
      rfl
    refine hK.out _ _ ?_
    clear hK
    refine done_ (by kernel_rfl) ?_
    clear e0 e1 u1 u2 u3 u4 v1_ v2_ v3_ v4_
    obtain ⟨wz, hwz⟩ : ∃ wz, wz = wa.setCell ⟨rb, 0, none⟩ (.slice A9 q9 k9) := ⟨_, rfl⟩
    rw [← hwz] at HPS HKS ⊢
    clear hwz
    go_wp2
    go_ret
    refine ⟨?_, HPS.out, HKS.out⟩
    show Ending.returned (.int .i64 (wrap64 (2 * ((n : Int) - ((i : Int) + 1) + 1) + 2 * (q : Int)))) = _
    rw [HU5.out, HQQ.out, off6_row HROW.out]
end Go.Proofs.Ytgifenlfklbdgaa.P
