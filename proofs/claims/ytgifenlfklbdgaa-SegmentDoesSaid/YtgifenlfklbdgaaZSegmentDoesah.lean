/- A part of the proof of the law SegmentDoes: the words, contracts and plain facts that it needs, no more. Each says its own condition. -/
import Derived.Test.YtgifenlfklbdgaaZSegmentDoesab
import Derived.Test.YtgifenlfklbdgaaZSegmentDoesm
section
namespace Go.Proofs.Ytgifenlfklbdgaa.P
open Go.RowKit Go.Proofs.YtgifenlfklbdgaaW.PrintWords Go.Proofs.YtgifenlfklbdgaaW.PrintLast Go.Proofs.YtgifenlfklbdgaaW.PrintMore
set_option linter.unusedSimpArgs false
set_option linter.unusedVariables false
structure Keep4 (W U : World) : Prop where
  s : W.heap.size ≤ U.heap.size
  k : ∀ (b : Nat) (cs : Array Value) (t : TypeId), t ≠ 3 → t ≠ 54 → W.heap[b]? = some (.cells cs t (0, 0)) → U.heap[b]? = some (.cells cs t (0, 0))
namespace Keep4
variable {W U V : World}
theorem refl (W : World) : Keep4 W W := ⟨Nat.le_refl _, fun _ _ _ _ _ h => h⟩
theorem trans (h : Keep4 W U) (k : Keep4 U V) : Keep4 W V := ⟨Nat.le_trans h.s k.s, fun b cs t h1 h2 hb => k.k b cs t h1 h2 (h.k b cs t h1 h2 hb)⟩
theorem below (h : Below W.heap.size W U) : Keep4 W U := ⟨h.size, fun b cs t _ _ hb => (h.block b (blk_lt hb)).trans hb⟩
theorem set {g : Nat} {ct : Array Value} {e : TypeId} (hg : W.heap[g]? = some (.cells ct e (0, 0))) (he : e = 3 ∨ e = 54) (j : Nat) (v : Value) : Keep4 W (W.setCell ⟨g, j, none⟩ v) :=
  ⟨by simp, fun b cs t h1 h2 hb => by
    have hne : b ≠ g := fun e2 => by
      subst e2
      rw [hg] at hb
      injection hb with hb
      injection hb with _ hb
      subst hb
      rcases he with he | he
      · exact h1 he
      · exact h2 he
    exact (Below.heap_setCell W _ v b hne).trans hb⟩
theorem grown {row : Option Nat} (hg : W.grownBy U row) (hr : ∀ k, row = some k → ∃ cells, W.heap[k]? = some (.cells cells 3 (0, 0))) : Keep4 W U :=
  ⟨hg.size, fun b cs t h1 h2 hb => by
    refine (hg.block b (blk_lt hb) (fun e => ?_)).trans hb
    obtain ⟨cells, hc⟩ := hr b e.symm
    rw [hb] at hc
    injection hc with hc
    injection hc with _ hc
    exact h1 hc⟩
end Keep4
theorem one_cell {W : World} {b : Nat} {v : Value} {t : TypeId} (h : W.heap[b]? = some (.cells #[v] t (0, 0))) : W.cell? ⟨b, 0, none⟩ = some v ∧ W.frozen? ⟨b, 0, none⟩ = false := ⟨(blk_cell h 0).trans rfl, Lib.frozen_of_heap h 0⟩
theorem set_one {W : World} {b : Nat} {v : Value} {t : TypeId} (h : W.heap[b]? = some (.cells #[v] t (0, 0))) (u : Value) : (W.setCell ⟨b, 0, none⟩ u).heap[b]? = some (.cells #[u] t (0, 0)) := by
  have := blk_set h 0 u
  simpa using this
theorem row_typed {W : World} {base : Nat} {ok : Nat → Prop} {v : Value} {xs : List Int} (h : Kd.R (Kd.int .i64) 3 W base ok v xs) (k : Nat) (hk : v.ownBlock = some k) : k < W.heap.size ∧ base ≤ k ∧ ok k ∧ ∃ cells, W.heap[k]? = some (.cells cells 3 (0, 0)) := by
  obtain ⟨h0, inner, ho, _⟩ := h
  exact ⟨own_lt ho k hk, own_base ho k hk, h0 k hk, own_typed ho k hk⟩
set_option maxRecDepth 100000 in
set_option maxHeartbeats 1000000 in
theorem put1_calls (ob : Nat) (w0 W : World) (base : Nat) (ok : Nat → Prop) (vo : Value) (xs ys : List Int) (A : Option Addr) (m c : Nat)
    (co : W.heap[ob]? = some (.cells #[vo] 54 (0, 0))) (ro : Kd.R (Kd.int .i64) 3 W base ok vo xs) (hok : ∀ k, W.heap.size ≤ k → ok k) (hB : Below base w0 W) (hbase : base ≤ W.heap.size)
    (hA : Kd.C (Kd.int .i64) W A m ys) (hlen : (xs.length + m) * 8 ≤ 140737488355328) :
    Calls Try.prog 92 #[.slice A m c, .pointer (some ⟨ob, 0, none⟩)] W fun e w' => (∃ v, e = .returned v) ∧ ∃ U v1, w' = U.setCell ⟨ob, 0, none⟩ v1 ∧ Kd.R (Kd.int .i64) 3 U base ok v1 (xs ++ ys) ∧ Below base w0 U ∧ W.grownBy U vo.ownBlock ∧
      (v1.ownBlock = vo.ownBlock ∨ ∃ b, v1.ownBlock = some b ∧ W.heap.size ≤ b) ∧ U.heap[ob]? = some (.cells #[vo] 54 (0, 0)) := by
  obtain ⟨Av, kv, rfl⟩ := Kd.R_slice ro
  have CO := Lib.hid co
  have RO := Lib.hid ro
  have HOK := Lib.hid hok
  have HB := Lib.hid hB
  have HBS := Lib.hid hbase
  have HA := Lib.hid hA
  have HL := Lib.hid hlen
  obtain ⟨c0, f0⟩ := one_cell co
  clear co ro hok hB hbase hA hlen
  go_enter Try.func92, Try.ntmps92
  go_wp2_with (first | ((with_reducible refine gate_builtin (b := .append) (xs := #[.tmp 3, .tmp 4]) rfl ?_); at_builtin; refine Kd.R_append_rows (Kd.int .i64) (w0 := w0) base rfl (.tmp 3) (.tmp 4) 54 3 (.int .i64 0) 8 rfl Try.underlying54 intInfo rfl (by decide) (by decide) (.slice Av xs.length kv) xs ys A m c ok (fun _ => False) rfl rfl RO.out HA.out (fun _ _ h => h) (fun _ h => h.elim) HOK.out HB.out HBS.out HL.out ?_; intro v1 U hv hb hg hat; obtain ⟨A1, k1, rfl⟩ := Kd.R_slice hv; generalize (xs ++ ys).length = q at hv hat ⊢; have hco := (hg.block ob (blk_lt CO.out) (fun e => by obtain ⟨_, _, _, cells, hcc⟩ := row_typed RO.out ob e.symm; rw [CO.out] at hcc; injection hcc with hcc; injection hcc with _ hcc; exact absurd hcc (by decide))).trans CO.out; obtain ⟨c1, f1⟩ := one_cell hco; have HV := Lib.hid hv; have HB1 := Lib.hid hb; have HG := Lib.hid hg; have HAT := Lib.hid hat; have HCO := Lib.hid hco; clear hv hb hg hat hco))
  go_end0
  exact ⟨⟨_, rfl⟩, _, _, rfl, HV.out, HB1.out, HG.out, HAT.out, HCO.out⟩
end Go.Proofs.Ytgifenlfklbdgaa.P
end
section
namespace Go.Proofs.Ytgifenlfklbdgaa.P
open Go.RowKit Go.Proofs.YtgifenlfklbdgaaW.PrintWords Go.Proofs.YtgifenlfklbdgaaW.PrintLast Go.Proofs.YtgifenlfklbdgaaW.PrintMore
set_option linter.unusedSimpArgs false
set_option linter.unusedVariables false
set_option maxRecDepth 100000 in
set_option maxHeartbeats 2000000 in
theorem each_walk (K : Nat) (caps : Array Value) (he : EntersK K) (lb pb ob : Nat) (AL : Option Addr) (n c : Nat) (L : List S42) (W0 : World) (hn : n = L.length) (hn2 : n ≤ 70000)
    (hlb : W0.heap[lb]? = some (.cells #[.slice AL n c] 22 (0, 0)))
    (hpb : W0.heap[pb]? = some (.cells #[.func (.func 92) #[] #[.pointer (some ⟨ob, 0, none⟩)]] 114 (0, 0)))
    (hC : Kd.C k42 W0 AL n L) (hT : ∀ a, AL = some a → ∃ cur, W0.heap[a.block]? = some (.cells cur 42 (0, 0)))
    (g : Nat → Int) (J J' : Nat → World → Prop) (h0 : J 0 W0) (hJb : ∀ i W W', J i W → Below W.heap.size W W' → J i W') (hJb' : ∀ i W W', J' i W → Below W.heap.size W W' → J' i W')
    (hof : ∀ i W, i < n → J i W → Keep4 W0 W → Calls Try.prog K (#[.agg #[.int .i64 (atS L i).f0, .int .i64 (atS L i).f1, .int .i64 (atS L i).f2, .int .i64 (atS L i).f3]] ++ caps) W fun e w' => e = .returned (.int .i64 (g i)) ∧ J' i w' ∧ Keep4 W w')
    (hput : ∀ i W A, i < n → J' i W → Kd.C (Kd.int .i64) W A 1 [g i] → Calls Try.prog 92 #[.slice A 1 1, .pointer (some ⟨ob, 0, none⟩)] W fun e w' => (∃ v, e = .returned v) ∧ J (i + 1) w' ∧ Keep4 W w') :
    Calls Try.prog 93 #[.func (.func K) #[] caps, .pointer (some ⟨lb, 0, none⟩), .pointer (some ⟨pb, 0, none⟩)] W0 fun e w' => (∃ v, e = .returned v) ∧ J n w' ∧ Keep4 W0 w' := by
  have HN := Lib.hid hn
  have HN2 := Lib.hid hn2
  have HLB := Lib.hid hlb
  have HPB := Lib.hid hpb
  have HC := Lib.hid hC
  have HT := Lib.hid hT
  have H0 := Lib.hid h0
  have HJB := Lib.hid hJb
  have HJB' := Lib.hid hJb'
  have HOF := Lib.hid hof
  have HPUT := Lib.hid hput
  obtain ⟨l0, _⟩ := one_cell hlb
  unfold EntersK at he
  clear hn hn2 hlb hpb hC hT h0 hJb hJb' hof hput
  go_enter Try.func93, Try.ntmps93
  go_wp2_with fail
  clear l0
  go_loopw [8] (fun v8 wr => ∃ i : Nat, i ≤ n ∧ v8 = .int .i64 (i : Int) ∧ Aside0 (J i wr) ∧ Aside0 (Keep4 W0 wr)) (fun v8 _ => n - (intOf v8).toNat)
  case atStart => exact ⟨0, Nat.zero_le _, rfl, ⟨H0.out⟩, ⟨Keep4.refl _⟩⟩
  case round =>
    obtain ⟨i, hi, rfl, HJ, HK⟩ := hrel
    by_cases hlt : i < n
    · have p0 : (0 : Int) ≤ (i : Int) := by omega
      have p1 : (i : Int) < (n : Int) := by omega
      have d3 : decide ((i : Int) < (n : Int)) = true := decide_eq_true p1
      have hwi : wrap64 ((i : Int) + 1) = ((i + 1 : Nat) : Int) := by have := HN2.out; unfold wrap64; omega
      obtain ⟨ad, rfl, x0, x1, x2, x3⟩ := at_T42 HC.out (i : Int) p0 p1
      rw [rd_atS] at x0 x1 x2 x3
      rw [Int.toNat_natCast] at x0 x1 x2 x3
      obtain ⟨cur, hcur⟩ := HT.out ad rfl
      have hblk : wr.heap[(ad.add (i * 4)).block]? = W0.heap[(ad.add (i * 4)).block]? := by
        have e : (ad.add (i * 4)).block = ad.block := by unfold Addr.add; split <;> rfl
        rw [e, hcur]
        exact HK.out.k _ _ _ (by decide) (by decide) hcur
      replace x0 := (cell_of hblk).trans x0
      replace x1 := (cell_of (a := ⟨(ad.add (i * 4)).block, (ad.add (i * 4)).off + 1, none⟩) hblk).trans x1
      replace x2 := (cell_of (a := ⟨(ad.add (i * 4)).block, (ad.add (i * 4)).off + 2, none⟩) hblk).trans x2
      replace x3 := (cell_of (a := ⟨(ad.add (i * 4)).block, (ad.add (i * 4)).off + 3, none⟩) hblk).trans x3
      have hpbr := HK.out.k _ _ _ (by decide) (by decide) HPB.out
      have HOFI := Lib.hid (HOF.out i)
      have HPI := Lib.hid (HPUT.out i)
      obtain ⟨x, hx⟩ : ∃ x, x = atS L i := ⟨_, rfl⟩
      rw [← hx] at x0 x1 x2 x3 HOFI
      obtain ⟨gi, hgi⟩ : ∃ gi, gi = g i := ⟨_, rfl⟩
      rw [← hgi] at HOFI HPI
      have HLT := Lib.hid hlt
      have HPR := Lib.hid hpbr
      clear hx hgi hcur hblk hpbr hlt hi
      replace p0 := eq_true p0
      replace p1 := eq_true p1
      go_wp2_with fail
      clear x0 x1 x2 x3
      obtain ⟨wx, hwx⟩ : ∃ wx, wx = wr.alloc (.cells #[.int .i64 x.f0, .int .i64 x.f1, .int .i64 x.f2, .int .i64 x.f3] 42) := ⟨_, rfl⟩
      obtain ⟨b5, hb5⟩ : ∃ b5, b5 = wr.heap.size := ⟨_, rfl⟩
      rw [← hwx, ← hb5]
      have hbx : Below wr.heap.size wr wx := by rw [hwx]; exact (Below.refl _ wr).alloc (Nat.le_refl _) _
      have HX5 := Lib.hid (show wx.heap[b5]? = some (.cells #[.int .i64 x.f0, .int .i64 x.f1, .int .i64 x.f2, .int .i64 x.f3] 42 (0, 0)) by rw [hwx, hb5]; exact World.alloc_heap_new wr _)
      have HXP := Lib.hid ((hbx.block pb (blk_lt HPR.out)).trans HPR.out)
      have HXJ := Lib.hid (HJB.out i wr wx HJ.out hbx)
      have HXK := Lib.hid (HK.out.trans (Keep4.below hbx))
      clear hwx hb5 hbx
      refine wp_mono (Q := Exit.then ?_ (fun _ _ _ => False)) ?_ ?_
      rotate_left 2
      · intro e a w h
        cases e with
        | normal => exact h
        | _ => exact (show False from h).elim
      refine start_ (n := 6) (S := fun u => u.heap[b5]? = some (.cells #[.int .i64 x.f0, .int .i64 x.f1, .int .i64 x.f2, .int .i64 x.f3] 42 (0, 0)) ∧ u.heap[pb]? = some (.cells #[.func (.func 92) #[] #[.pointer (some ⟨ob, 0, none⟩)]] 114 (0, 0))) (ds := []) #[false, false, false, false, false, false] (by kernel_rfl) rfl rfl ⟨HX5.out, HXP.out⟩ (fun hHeld => ?_)
      obtain ⟨wd, hwd⟩ : ∃ wd, wd = wx.drew := ⟨_, rfl⟩
      have hbd : Below wx.heap.size wx wd := by rw [hwd]; exact below_drew1 (Below.refl _ _)
      rw [← hwd] at hHeld ⊢
      have HDJ := Lib.hid (HJB.out i wx wd HXJ.out hbd)
      have HDK := Lib.hid (HXK.out.trans (Keep4.below hbd))
      clear hwd hbd
      refine pure_ (i := 1) (N := some 13) (v := ?_) (a' := ?_) #[false, true, false, false, false, false] rfl rfl (by kernel_rfl) (fun _ _ _ h => h) (Or.inl ⟨by rfl, ?_⟩) ?_ ?_
      rotate_left
      · intro w'
        go_simp
        with_reducible rfl
      rotate_left
      · simp only [Act.put, List.setIfInBounds_toArray, List.set_cons_zero, List.set_cons_succ, i64_w, i32_w]
        rfl
      refine take_ (i := 0) (N := some 12) (v := ?_) (a' := ?_) #[true, true, false, false, false, false] rfl rfl (by kernel_rfl) (fun _ _ _ h => h) (Or.inl ⟨by rfl, ?_⟩) hHeld ?_ ?_
      rotate_left
      · rintro w' s0
        obtain ⟨t0, t1⟩ := s0
        have q0 := (one_cell t1).1
        have z0 : w'.cell? ⟨b5, 0, none⟩ = some (.int .i64 x.f0) := (blk_cell t0 0).trans rfl
        have z1 : w'.cell? ⟨b5, 1, none⟩ = some (.int .i64 x.f1) := (blk_cell t0 1).trans rfl
        have z2 : w'.cell? ⟨b5, 2, none⟩ = some (.int .i64 x.f2) := (blk_cell t0 2).trans rfl
        have z3 : w'.cell? ⟨b5, 3, none⟩ = some (.int .i64 x.f3) := (blk_cell t0 3).trans rfl
        clear t0 t1
        go_simp
        with_reducible rfl
      rotate_left
      · simp only [Act.put, List.setIfInBounds_toArray, List.set_cons_zero, List.set_cons_succ, i64_w, i32_w]
        rfl
      refine take_ (i := 2) (N := some 14) (v := ?_) (a' := ?_) #[true, true, true, false, false, false] rfl rfl (by kernel_rfl) (fun _ _ _ h => h) (Or.inl ⟨by rfl, ?_⟩) hHeld ?_ ?_
      rotate_left
      · rintro w' s0
        obtain ⟨t0, t1⟩ := s0
        have q0 := (one_cell t1).1
        have z0 : w'.cell? ⟨b5, 0, none⟩ = some (.int .i64 x.f0) := (blk_cell t0 0).trans rfl
        have z1 : w'.cell? ⟨b5, 1, none⟩ = some (.int .i64 x.f1) := (blk_cell t0 1).trans rfl
        have z2 : w'.cell? ⟨b5, 2, none⟩ = some (.int .i64 x.f2) := (blk_cell t0 2).trans rfl
        have z3 : w'.cell? ⟨b5, 3, none⟩ = some (.int .i64 x.f3) := (blk_cell t0 3).trans rfl
        clear t0 t1
        go_simp
        with_reducible rfl
      rotate_left
      · simp only [Act.put, List.setIfInBounds_toArray, List.set_cons_zero, List.set_cons_succ, i64_w, i32_w]
        rfl
      refine one_ (i := 3) (N := some 15) #[true, true, true, true, false, false] rfl rfl (by kernel_rfl) (by decide) (fun K hK => ?_)
      go_simp
      refine (HOFI.out wd HLT.out HDJ.out HDK.out).mono ?_
      rintro e w1 ⟨rfl, hj1, hk1⟩
      have HJ1 := Lib.hid hj1
      have HK1 := Lib.hid (HDK.out.trans hk1)
      dsimp only
      refine hK.out _ _ ⟨hk1.k _ _ _ (by decide) (by decide) hHeld.1, hk1.k _ _ _ (by decide) (by decide) hHeld.2⟩ (fun hHeld2 => ?_)
      clear hK hj1 hk1
      refine one_ (i := 4) (N := some 16) #[true, true, true, true, true, false] rfl rfl (by kernel_rfl) (by decide) (fun K hK => ?_)
      refine value_ (w1 := ?_) (v := ?_) (by rfl) rfl ?_ ?_
      rotate_left 2
      · go_simp
        constructor
        · rfl
        · rfl
      have hbl : Below w1.heap.size w1 (w1.alloc (.cells #[.int .i64 gi] 3)) := (Below.refl _ w1).alloc (Nat.le_refl _) _
      have HA := Lib.hid (show Kd.C (Kd.int .i64) (w1.alloc (.cells #[.int .i64 gi] 3)) (some ⟨w1.heap.size, 0, none⟩) 1 [gi] from lit_C w1 [gi] (by simp [maxLen]))
      have HJ2 := Lib.hid (HJB'.out i _ _ HJ1.out hbl)
      have HK2 := Lib.hid (HK1.out.trans (Keep4.below hbl))
      refine hK.out _ _ ⟨(hbl.block b5 (blk_lt hHeld2.1)).trans hHeld2.1, (hbl.block pb (blk_lt hHeld2.2)).trans hHeld2.2⟩ (fun hHeld3 => ?_)
      clear hK hbl
      refine norm_ (a' := ?_) ?_ ?_
      rotate_left
      · show Act.put _ (some 16) _ = _
        simp only [Act.put, List.setIfInBounds_toArray, List.set_cons_zero, List.set_cons_succ, i64_w, i32_w]
        rfl
      obtain ⟨w2, hw2⟩ : ∃ w2, w2 = w1.alloc (.cells #[.int .i64 gi] 3) := ⟨_, rfl⟩
      obtain ⟨b6, hb6⟩ : ∃ b6, b6 = w1.heap.size := ⟨_, rfl⟩
      rw [← hw2] at HA HJ2 HK2 hHeld3 ⊢
      rw [← hb6] at HA ⊢
      clear hw2 hb6
      refine one_ (i := 5) (N := some 17) #[true, true, true, true, true, true] rfl rfl (by kernel_rfl) (by decide) (fun K hK => ?_)
      go_simp
      refine (HPI.out w2 _ HLT.out HJ2.out HA.out).mono ?_
      rintro e w3 ⟨⟨v3, rfl⟩, hj3, hk3⟩
      have HJ3 := Lib.hid hj3
      have HK3 := Lib.hid (HK2.out.trans hk3)
      dsimp only
      refine hK.out _ _ ⟨hk3.k _ _ _ (by decide) (by decide) hHeld3.1, hk3.k _ _ _ (by decide) (by decide) hHeld3.2⟩ (fun hHeld4 => ?_)
      clear hK hj3 hk3
      refine done_ (by kernel_rfl) ?_
      go_wp2
      go_roundw
      case rel => exact ⟨i + 1, HLT.out, by rw [hwi], ⟨HJ3.out⟩, ⟨HK3.out⟩⟩
      case measure => rw [hwi]; exact less_step (by decide) HLT.out
    · have hin : i = n := by omega
      subst hin
      have d3 : decide ((i : Int) < (i : Int)) = false := decide_eq_false (by omega)
      go_wp2
      go_end0
      exact ⟨⟨_, rfl⟩, HJ.out, HK.out⟩
end Go.Proofs.Ytgifenlfklbdgaa.P
end
