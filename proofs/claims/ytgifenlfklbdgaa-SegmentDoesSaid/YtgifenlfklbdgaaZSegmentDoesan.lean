/- A part of the proof of the law SegmentDoes: the words, contracts and plain facts that it needs, no more. Each says its own condition. -/
import Derived.Test.YtgifenlfklbdgaaZSegmentDoesal
import Derived.Test.YtgifenlfklbdgaaZSegmentDoesam
import Derived.Test.YtgifenlfklbdgaaZSegmentDoest
namespace Go.Proofs.Ytgifenlfklbdgaa.P
open Go.RowKit Go.Proofs.YtgifenlfklbdgaaW.PrintWords Go.Proofs.YtgifenlfklbdgaaW.PrintLast Go.Proofs.YtgifenlfklbdgaaW.PrintMore
set_option linter.unusedSimpArgs false
set_option linter.unusedVariables false
set_option maxRecDepth 100000 in
set_option maxHeartbeats 2000000 in
theorem sput_bad (A0 : Option Addr) (c0 : Nat) (l : List S42) (w : World) (hr0 : Kd.C k42 w A0 l.length l) (hc0 : l.length ≤ c0) (L : List S42) (k e : Int) (hs : segP l = (L, k, e)) (he : e ≠ 0) :
    Calls Try.prog 51 #[.slice A0 l.length c0] w fun e' w' => e' = .returned (.tuple #[.string ⟨#[]⟩, .int .i64 e]) ∧ Below w.heap.size w w' := by
  have H1 := Lib.hid (fun W (hW : Below w.heap.size w W) => segment_segments.calls A0 c0 l L k e W (Kd.C_below hr0 hW) hc0 (by unfold segment_segments.f; rw [hs]))
  have d1 : (e != 0) = true := by simpa using he
  clear hr0 hc0 hs he
  go_enter Try.func51, Try.ntmps51
  go_wp2_with fail
  have hbx := (Below.refl w.heap.size w).alloc (Nat.le_refl _) (.cells #[.slice A0 l.length c0] 22)
  refine (H1.out _ hbx).mono ?_
  rintro e' w1 ⟨v1, rfl, hv1, hb1⟩
  obtain ⟨A1, c1, rfl⟩ := Kd.R_slice hv1
  have hlb := (hb1.block w.heap.size (by simp)).trans (World.alloc_heap_new w (.cells #[.slice A0 l.length c0] 22))
  obtain ⟨l0, l1⟩ := one_cell hlb
  have HB := Lib.hid ((below_then hbx hbx.size hb1).setCell (p := ⟨w.heap.size, 0, none⟩) (Nat.le_refl _) (.slice A1 L.length c1))
  clear hv1 hb1 hbx hlb
  go_wp2
  go_ret2
  exact ⟨rfl, HB.out⟩
structure Start (w W : World) (lb nb : Nat) (AL : Option Addr) (n c : Nat) (L : List S42) : Prop where
  lb : W.heap[lb]? = some (.cells #[.slice AL n c] 22 (0, 0))
  nb : W.heap[nb]? = some (.cells #[.int .i64 (n : Int)] 3 (0, 0))
  c : Kd.C k42 W AL n L
  t : ∀ a, AL = some a → ∃ cur, W.heap[a.block]? = some (.cells cur 42 (0, 0))
  b : Below w.heap.size w W
theorem Start.below {w W U : World} {lb nb : Nat} {AL : Option Addr} {n c : Nat} {L : List S42} (h : Start w W lb nb AL n c L) (hb : Below W.heap.size W U) : Start w U lb nb AL n c L :=
  ⟨(hb.block lb (blk_lt h.lb)).trans h.lb, (hb.block nb (blk_lt h.nb)).trans h.nb, Kd.C_below h.c hb, fun a e => by obtain ⟨cur, hc⟩ := h.t a e; exact ⟨cur, (hb.block a.block (blk_lt hc)).trans hc⟩, below_then h.b h.b.size hb⟩
structure Held (W : World) (lb pb ob : Nat) (AL : Option Addr) (n c : Nat) (L : List S42) : Prop where
  lb : W.heap[lb]? = some (.cells #[.slice AL n c] 22 (0, 0))
  pb : W.heap[pb]? = some (.cells #[.func (.func 92) #[] #[.pointer (some ⟨ob, 0, none⟩)]] 114 (0, 0))
  c : Kd.C k42 W AL n L
  t : ∀ a, AL = some a → ∃ cur, W.heap[a.block]? = some (.cells cur 42 (0, 0))
theorem Held.keep {W U : World} {lb pb ob : Nat} {AL : Option Addr} {n c : Nat} {L : List S42} (h : Held W lb pb ob AL n c L) (k : Keep4 W U) : Held U lb pb ob AL n c L := by
  refine ⟨k.k _ _ _ (by decide) (by decide) h.lb, k.k _ _ _ (by decide) (by decide) h.pb, ⟨h.c.1, h.c.2.1, fun hp => ?_⟩, fun a e => ?_⟩
  · obtain ⟨ad, e, hj⟩ := h.c.2.2 hp
    refine ⟨ad, e, fun j p hjp => ?_⟩
    obtain ⟨cs, h1, h2, h3⟩ := hj j p hjp
    obtain ⟨cur, hcur⟩ := h.t ad e
    have hblk : U.heap[ad.block]? = W.heap[ad.block]? := (k.k _ _ _ (by decide) (by decide) hcur).trans hcur.symm
    refine ⟨cs, h1, ?_, fun i u hu => ?_⟩
    · have e2 := k42_open h2
      rw [e2]; exact k42_mk U p
    · have eb : (ad.add (j * k42.sz + i)).block = ad.block := by unfold Addr.add; split <;> rfl
      exact (cell_of (by rw [eb]; exact hblk)).trans (h3 i u hu)
  · obtain ⟨cur, hc⟩ := h.t a e
    exact ⟨cur, k.k _ _ _ (by decide) (by decide) hc⟩
theorem store_fresh (W : World) (f : FuncId) (caps : Array Value) (t : TypeId) : (store ⟨W.heap.size, 0, none⟩ (.func (.func f) #[] caps)).run Try.prog (W.alloc (.cells #[.nilFunc] t)) = .ok () (W.alloc (.cells #[.func (.func f) #[] caps] t)) := by
  rw [run_store _ _ _ _ _ rfl]
  have e := World.alloc_heap_new W (.cells #[.nilFunc] t)
  obtain ⟨c0, f0⟩ := one_cell e
  rw [c0]
  dsimp only
  rw [f0]
  simp [go_sem]
theorem out_parts (L : List S42) (k : Nat) : headS L.length k ++ L.map (fun x => x.f1) ++ [0] ++ L.map (fun x => x.f0) ++ L.map delS ++ offsS 0 L ++ restS L = outS L k := by
  unfold outS
  simp only [List.append_assoc]
theorem shl_two (h : Nat) (hh : h < 17) : IntKind.i64.wrap (2 * 2 ^ h) = 2 * ((2 ^ h : Nat) : Int) := by
  have h1 : (2 : Nat) ^ h ≤ 2 ^ 16 := Nat.pow_le_pow_right (by decide) (by omega)
  have h2 : ((2 ^ h : Nat) : Int) = (2 : Int) ^ h := by simp
  rw [← h2, i64_w]
  have h3 : (2 : Nat) ^ 16 = 65536 := by decide
  rw [h3] at h1
  generalize (2 : Nat) ^ h = p at *
  unfold wrap64; omega
set_option maxRecDepth 100000 in
set_option maxHeartbeats 4000000 in
theorem sput_ok (A0 : Option Addr) (c0 : Nat) (l : List S42) (w : World) (hr0 : Kd.C k42 w A0 l.length l) (hc0 : l.length ≤ c0) (L : List S42) (k : Int) (hs : segP l = (L, k, 0)) :
    Calls Try.prog 51 #[.slice A0 l.length c0] w fun e' w' => e' = .returned (.tuple #[.string ⟨(bytesS (outS L (cntR L))).toArray⟩, .int .i64 0]) ∧ Below w.heap.size w w' := by
  have hz1 := (zero_of_info (P := Try.prog) (t := 54) (v := .slice none 0 0) (n := 1) (by kernel_rfl)).1
  have hz2 := (zero_of_info (P := Try.prog) (t := 3) (v := .int .i64 0) (n := 1) (by kernel_rfl)).1
  have hz3 := (zero_of_info (P := Try.prog) (t := 114) (v := .nilFunc) (n := 1) (by kernel_rfl)).1
  obtain ⟨hi, hL, hk, hcl, hG⟩ := segP_good hs
  have H1 := Lib.hid (fun W (hW : Below w.heap.size w W) => segment_segments.calls A0 c0 l L k 0 W (Kd.C_below hr0 hW) hc0 (by unfold segment_segments.f; rw [hs]))
  have HG := Lib.hid hG
  have HK := Lib.hid hk
  obtain ⟨n, hn⟩ : ∃ n, n = L.length := ⟨_, rfl⟩
  have HN := Lib.hid hn
  have HNB := Lib.hid (show 1 ≤ n ∧ n ≤ 8190 ∧ cntR L ≤ 32767 by have h1 := hG.n; have h2 := hG.s; omega)
  obtain ⟨h, hh⟩ : ∃ h, h = n.log2 := ⟨_, rfl⟩
  have HH := Lib.hid hh
  have HHB := Lib.hid (show h < 17 by rw [hh]; have := log2_small (n := n) (by have := HNB.out; omega); omega)
  have HKB := Lib.hid (show 0 ≤ k ∧ k ≤ 32767 by rw [hk]; have := HNB.out; omega)
  obtain ⟨P, hP⟩ : ∃ P : Int, P = 2 * ((2 ^ h : Nat) : Int) := ⟨_, rfl⟩
  have HPP := Lib.hid hP
  have HPB := Lib.hid (show 0 ≤ P ∧ P ≤ 2 * (n : Int) by
    have h2 := (log2_bd (n := n) (by have := HNB.out; omega)).1
    rw [← hh] at h2
    rw [hP]
    generalize (2 : Nat) ^ h = p at *
    omega)
  clear hr0 hc0 hs hi hL hk hcl hG hn hh hP
  go_enter Try.func51, Try.ntmps51
  go_wp2_with fail
  have hbx := (Below.refl w.heap.size w).alloc (Nat.le_refl _) (.cells #[.slice A0 l.length c0] 22)
  refine (H1.out _ hbx).mono ?_
  rintro e' w1 ⟨v1, rfl, hv1, hb1⟩
  obtain ⟨A1, c1, rfl, _, hC1⟩ := Kd.R_reads hv1
  rw [← HN.out] at hC1 ⊢
  obtain ⟨lb, hlbz⟩ : ∃ lb, lb = w.heap.size := ⟨_, rfl⟩
  have hlb := (hb1.block w.heap.size (by simp)).trans (World.alloc_heap_new w (.cells #[.slice A0 l.length c0] 22))
  rw [← hlbz] at hlb ⊢
  obtain ⟨l0, l1⟩ := one_cell hlb
  obtain ⟨w2, hw2⟩ : ∃ w2, w2 = w1.setCell ⟨lb, 0, none⟩ (.slice A1 n c1) := ⟨_, rfl⟩
  have hlb2 := set_one hlb (.slice A1 n c1)
  have hB2 := (below_then hbx hbx.size hb1).setCell (p := ⟨lb, 0, none⟩) (Nat.le_of_eq hlbz.symm) (.slice A1 n c1)
  have hty : ∀ a, A1 = some a → lb < a.block ∧ ∃ cur, w1.heap[a.block]? = some (.cells cur 42 (0, 0)) := fun a ha => by
    subst ha
    obtain ⟨_, inner, ho, _⟩ := hv1
    have h1 := own_base ho a.block (by simp [Value.ownBlock])
    obtain ⟨cur, hc⟩ := own_typed ho a.block (by simp [Value.ownBlock])
    simp only [World.size_alloc] at h1
    exact ⟨by omega, cur, hc⟩
  have hC2 : Kd.C k42 w2 A1 n L := by
    refine ⟨hC1.1, hC1.2.1, fun hp => ?_⟩
    obtain ⟨ad, e, hj⟩ := hC1.2.2 hp
    refine ⟨ad, e, fun j p hjp => ?_⟩
    obtain ⟨cs, h1, h2, h3⟩ := hj j p hjp
    have hne := (hty ad e).1
    have hblk : w2.heap[ad.block]? = w1.heap[ad.block]? := by rw [hw2]; exact Below.heap_setCell w1 _ _ _ (show ad.block ≠ lb by omega)
    refine ⟨cs, h1, ?_, fun i u hu => ?_⟩
    · have e2 := k42_open h2
      rw [e2]; exact k42_mk w2 p
    · have eb : (ad.add (j * k42.sz + i)).block = ad.block := by unfold Addr.add; split <;> rfl
      exact (cell_of (by rw [eb]; exact hblk)).trans (h3 i u hu)
  have hT2 : ∀ a, A1 = some a → ∃ cur, w2.heap[a.block]? = some (.cells cur 42 (0, 0)) := fun a ha => by
    obtain ⟨h1, cur, hc⟩ := hty a ha
    exact ⟨cur, by rw [hw2]; exact (Below.heap_setCell w1 _ _ _ (show a.block ≠ lb by omega)).trans hc⟩
  rw [← hw2] at hlb2 hB2
  obtain ⟨nb, hnbz⟩ : ∃ nb, nb = w2.heap.size := ⟨_, rfl⟩
  obtain ⟨w3, hw3⟩ : ∃ w3, w3 = w2.alloc (.cells #[.int .i64 (n : Int)] 3) := ⟨_, rfl⟩
  have hb23 : Below w2.heap.size w2 w3 := by rw [hw3]; exact (Below.refl _ w2).alloc (Nat.le_refl _) _
  have HST := Lib.hid (show Start w w3 lb nb A1 n c1 L from ⟨(hb23.block lb (blk_lt hlb2)).trans hlb2, by rw [hw3, hnbz]; exact World.alloc_heap_new w2 _, Kd.C_below hC2 hb23, fun a e => by obtain ⟨cur, hc⟩ := hT2 a e; exact ⟨cur, (hb23.block a.block (blk_lt hc)).trans hc⟩, below_then hB2 hB2.size hb23⟩)
  obtain ⟨s0, _⟩ := one_cell hlb2
  have HLW := Lib.hid (show w.heap.size ≤ lb from Nat.le_of_eq hlbz.symm)
  clear hv1 hb1 hC1 hlb hbx hty hC2 hT2 hb23 hlb2 hB2 hlbz
  go_upto_region 4 with (fail)
  rw [← hw2]
  clear l0 l1 hw2
  go_upto_region 5 with (fail)
  rw [← hw3, ← hnbz]
  clear s0 hw3 hnbz
  obtain ⟨s0, _⟩ := one_cell HST.out.nb
  have hcv : ((n : Int) % 18446744073709551616) = (n : Int) := by have := HNB.out; omega
  go_wp2_with fail
  refine (len_calls n w3 HNB.out.1 (by have := HNB.out; omega)).mono ?_
  rintro e' w3' ⟨rfl, rfl⟩
  rw [← HH.out]
  have hwh : wrap64 ((h : Int) + 1 - 1) = (h : Int) := by have := HHB.out; unfold wrap64; omega
  have hwh2 : wrap64 ((h : Int)) = (h : Int) := by have := HHB.out; unfold wrap64; omega
  clear s0 hcv
  have hstf := store_fresh (w3.alloc (.cells #[.slice none 0 0] 54)) 92 #[.pointer (some ⟨w3.heap.size, 0, none⟩)] 114
  rw [World.size_alloc] at hstf
  go_upto_region 8 with (fail)
  rw [hwh2]
  clear hstf
  obtain ⟨ob, hob⟩ : ∃ ob, ob = w3.heap.size := ⟨_, rfl⟩
  obtain ⟨pb, hpb⟩ : ∃ pb, pb = ob + 1 := ⟨_, rfl⟩
  obtain ⟨w4, hw4⟩ : ∃ w4, w4 = (w3.alloc (.cells #[.slice none 0 0] 54)).alloc (.cells #[.func (.func 92) #[] #[.pointer (some ⟨ob, 0, none⟩)]] 114) := ⟨_, rfl⟩
  have hb34 : Below w3.heap.size w3 w4 := by rw [hw4]; exact ((Below.refl _ w3).alloc (Nat.le_refl _) _).alloc (by simp) _
  have hst4 := HST.out.below hb34
  have ho4 : w4.heap[ob]? = some (.cells #[.slice none 0 0] 54 (0, 0)) := by rw [hw4, hob]; exact (Below.heap_alloc _ _ _ (by simp)).trans (World.alloc_heap_new w3 _)
  have hp4 : w4.heap[pb]? = some (.cells #[.func (.func 92) #[] #[.pointer (some ⟨ob, 0, none⟩)]] 114 (0, 0)) := by
    rw [hw4, hpb, hob]
    have e := World.alloc_heap_new (w3.alloc (.cells #[.slice none 0 0] 54)) (.cells #[.func (.func 92) #[] #[.pointer (some ⟨w3.heap.size, 0, none⟩)]] 114)
    rw [World.size_alloc] at e
    exact e
  have HOW := Lib.hid (show OutW w w4 ob nb n [] from ⟨⟨_, ho4, Kd.R_nil _ _ _ _ _⟩, hst4.nb, hst4.b, by have := HST.out.b.size; omega⟩)
  have HHE := Lib.hid (show Held w4 lb pb ob A1 n c1 L from ⟨hst4.lb, hp4, hst4.c, hst4.t⟩)
  rw [← hob, ← hpb, ← hw4]
  clear hob hpb hw4 hb34 hst4 ho4 hp4 hwh hwh2
  refine wp_mono (Q := Exit.then ?_ (fun _ _ _ => False)) ?_ ?_
  rotate_left 2
  · intro e a w h
    cases e with
    | normal => exact h
    | _ => exact (show False from h).elim
  refine start_ (n := 19) (S := fun u => u.heap[pb]? = some (.cells #[.func (.func 92) #[] #[.pointer (some ⟨ob, 0, none⟩)]] 114 (0, 0)) ∧ u.heap[nb]? = some (.cells #[.int .i64 (n : Int)] 3 (0, 0))) (ds := []) #[false, false, false, false, false, false, false, false, false, false, false, false, false, false, false, false, false, false, false] (by kernel_rfl) rfl rfl ⟨HHE.out.pb, HOW.out.n⟩ (fun hHeld => ?_)
  obtain ⟨w5, hw5⟩ : ∃ w5, w5 = w4.drew := ⟨_, rfl⟩
  have hb5 : Below w4.heap.size w4 w5 := by rw [hw5]; exact below_drew1 (Below.refl _ _)
  rw [← hw5] at hHeld ⊢
  have HO5 := Lib.hid (HOW.out.below hb5)
  have HE5 := Lib.hid (HHE.out.keep (Keep4.below hb5))
  clear hw5 hb5
  have g1 : IntKind.i64.wrap (8 * (n : Int)) = 8 * (n : Int) := by rw [i64_w]; have := HNB.out; unfold wrap64; omega
  have g2 : IntKind.i64.wrap (16 + 8 * (n : Int)) = 16 + 8 * (n : Int) := by rw [i64_w]; have := HNB.out; unfold wrap64; omega
  have g3 : IntKind.i64.wrap (2 * k) = 2 * k := by rw [i64_w]; have := HKB.out; unfold wrap64; omega
  have g4 : IntKind.i64.wrap (16 + 8 * (n : Int) + 2 * k) = 16 + 8 * (n : Int) + 2 * k := by rw [i64_w]; have := HKB.out; have := HNB.out; unfold wrap64; omega
  have g5 : IntKind.i64.wrap (2 * (n : Int)) = 2 * (n : Int) := by rw [i64_w]; have := HNB.out; unfold wrap64; omega
  have g6 : IntKind.i64.wrap (2 * (n : Int) - P) = 2 * (n : Int) - P := by rw [i64_w]; have := HPB.out; have := HNB.out; unfold wrap64; omega
  have hh0 : (0 : Int) ≤ (h : Int) := by omega
  refine pure_ (i := 4) (N := some 33) (v := ?_) (a' := ?_) #[false, false, false, false, true, false, false, false, false, false, false, false, false, false, false, false, false, false, false] rfl rfl (by kernel_rfl) (fun _ _ _ h => h) (Or.inl ⟨by rfl, ?_⟩) ?_ ?_
  rotate_left
  · intro w'
    go_simp
    with_reducible rfl
  rotate_left
  · simp only [Act.put, List.setIfInBounds_toArray, List.set_cons_zero, List.set_cons_succ, i64_w, i32_w]
    rfl
  refine pure_ (i := 9) (N := some 38) (v := ?_) (a' := ?_) #[false, false, false, false, true, false, false, false, false, true, false, false, false, false, false, false, false, false, false] rfl rfl (by kernel_rfl) (fun _ _ _ h => h) (Or.inl ⟨by rfl, ?_⟩) ?_ ?_
  rotate_left
  · intro w'
    go_simp
    with_reducible rfl
  rotate_left
  · simp only [Act.put, List.setIfInBounds_toArray, List.set_cons_zero, List.set_cons_succ, i64_w, i32_w]
    rfl
  refine pure_ (i := 11) (N := some 40) (v := ?_) (a' := ?_) #[false, false, false, false, true, false, false, false, false, true, false, true, false, false, false, false, false, false, false] rfl rfl (by kernel_rfl) (fun _ _ _ h => h) (Or.inl ⟨by rfl, ?_⟩) ?_ ?_
  rotate_left
  · intro w'
    go_simp
    with_reducible rfl
  rotate_left
  · simp only [Act.put, List.setIfInBounds_toArray, List.set_cons_zero, List.set_cons_succ, i64_w, i32_w]
    rfl
  refine pure_ (i := 14) (N := some 43) (v := ?_) (a' := ?_) #[false, false, false, false, true, false, false, false, false, true, false, true, false, false, true, false, false, false, false] rfl rfl (by kernel_rfl) (fun _ _ _ h => h) (Or.inl ⟨by rfl, ?_⟩) ?_ ?_
  rotate_left
  · intro w'
    go_simp
    with_reducible rfl
  rotate_left
  · simp only [Act.put, List.setIfInBounds_toArray, List.set_cons_zero, List.set_cons_succ, i64_w, i32_w]
    rfl
  refine take_ (i := 0) (N := some 29) (v := ?_) (a' := ?_) #[true, false, false, false, true, false, false, false, false, true, false, true, false, false, true, false, false, false, false] rfl rfl (by kernel_rfl) (fun _ _ _ h => h) (Or.inl ⟨by rfl, ?_⟩) hHeld ?_ ?_
  rotate_left
  · rintro w' s0
    obtain ⟨t0, t1⟩ := s0
    have q0 := (one_cell t0).1
    have q1 := (one_cell t1).1
    clear t0 t1
    go_simp
    with_reducible rfl
  rotate_left
  · simp only [Act.put, List.setIfInBounds_toArray, List.set_cons_zero, List.set_cons_succ, i64_w, i32_w]
    rfl
  refine take_ (i := 1) (N := some 30) (v := ?_) (a' := ?_) #[true, true, false, false, true, false, false, false, false, true, false, true, false, false, true, false, false, false, false] rfl rfl (by kernel_rfl) (fun _ _ _ h => h) (Or.inl ⟨by rfl, ?_⟩) hHeld ?_ ?_
  rotate_left
  · rintro w' s0
    obtain ⟨t0, t1⟩ := s0
    have q0 := (one_cell t0).1
    have q1 := (one_cell t1).1
    clear t0 t1
    go_simp
    with_reducible rfl
  rotate_left
  · simp only [Act.put, List.setIfInBounds_toArray, List.set_cons_zero, List.set_cons_succ, i64_w, i32_w]
    rfl
  refine take_ (i := 7) (N := some 36) (v := ?_) (a' := ?_) #[true, true, false, false, true, false, false, true, false, true, false, true, false, false, true, false, false, false, false] rfl rfl (by kernel_rfl) (fun _ _ _ h => h) (Or.inl ⟨by rfl, ?_⟩) hHeld ?_ ?_
  rotate_left
  · rintro w' s0
    obtain ⟨t0, t1⟩ := s0
    have q0 := (one_cell t0).1
    have q1 := (one_cell t1).1
    clear t0 t1
    go_simp
    with_reducible rfl
  rotate_left
  · simp only [Act.put, List.setIfInBounds_toArray, List.set_cons_zero, List.set_cons_succ, i64_w, i32_w]
    rfl
  refine take_ (i := 12) (N := some 41) (v := ?_) (a' := ?_) #[true, true, false, false, true, false, false, true, false, true, false, true, true, false, true, false, false, false, false] rfl rfl (by kernel_rfl) (fun _ _ _ h => h) (Or.inl ⟨by rfl, ?_⟩) hHeld ?_ ?_
  rotate_left
  · rintro w' s0
    obtain ⟨t0, t1⟩ := s0
    have q0 := (one_cell t0).1
    have q1 := (one_cell t1).1
    clear t0 t1
    go_simp
    with_reducible rfl
  rotate_left
  · simp only [Act.put, List.setIfInBounds_toArray, List.set_cons_zero, List.set_cons_succ, i64_w, i32_w]
    rfl
  refine pure_ (i := 2) (N := some 31) (v := ?_) (a' := ?_) #[true, true, true, false, true, false, false, true, false, true, false, true, true, false, true, false, false, false, false] rfl rfl (by kernel_rfl) (fun _ _ _ h => h) (Or.inl ⟨by rfl, ?_⟩) ?_ ?_
  rotate_left
  · intro w'
    go_simp
    with_reducible rfl
  rotate_left
  · simp only [Act.put, List.setIfInBounds_toArray, List.set_cons_zero, List.set_cons_succ, i64_w, i32_w]
    rfl
  refine pure_ (i := 3) (N := some 32) (v := ?_) (a' := ?_) #[true, true, true, true, true, false, false, true, false, true, false, true, true, false, true, false, false, false, false] rfl rfl (by kernel_rfl) (fun _ _ _ h => h) (Or.inl ⟨by rfl, ?_⟩) ?_ ?_
  rotate_left
  · intro w'
    go_simp
    with_reducible rfl
  rotate_left
  · simp only [Act.put, List.setIfInBounds_toArray, List.set_cons_zero, List.set_cons_succ, i64_w, i32_w]
    rfl
  refine pure_ (i := 5) (N := some 34) (v := ?_) (a' := ?_) #[true, true, true, true, true, true, false, true, false, true, false, true, true, false, true, false, false, false, false] rfl rfl (by kernel_rfl) (fun _ _ _ h => h) (Or.inl ⟨by rfl, ?_⟩) ?_ ?_
  rotate_left
  · intro w'
    go_simp
    with_reducible rfl
  rotate_left
  · simp only [Act.put, List.setIfInBounds_toArray, List.set_cons_zero, List.set_cons_succ, i64_w, i32_w]
    rfl
  refine pure_ (i := 6) (N := some 35) (v := ?_) (a' := ?_) #[true, true, true, true, true, true, true, true, false, true, false, true, true, false, true, false, false, false, false] rfl rfl (by kernel_rfl) (fun _ _ _ h => h) (Or.inl ⟨by rfl, ?_⟩) ?_ ?_
  rotate_left
  · intro w'
    go_simp
    with_reducible rfl
  rotate_left
  · simp only [Act.put, List.setIfInBounds_toArray, List.set_cons_zero, List.set_cons_succ, i64_w, i32_w]
    rfl
  refine pure_ (i := 8) (N := some 37) (v := ?_) (a' := ?_) #[true, true, true, true, true, true, true, true, true, true, false, true, true, false, true, false, false, false, false] rfl rfl (by kernel_rfl) (fun _ _ _ h => h) (Or.inl ⟨by rfl, ?_⟩) ?_ ?_
  rotate_left
  · intro w'
    go_simp
    with_reducible rfl
  rotate_left
  · simp only [Act.put, List.setIfInBounds_toArray, List.set_cons_zero, List.set_cons_succ, i64_w, i32_w]
    rfl
  refine pure_ (i := 13) (N := some 42) (v := ?_) (a' := ?_) #[true, true, true, true, true, true, true, true, true, true, false, true, true, true, true, false, false, false, false] rfl rfl (by kernel_rfl) (fun _ _ _ h => h) (Or.inl ⟨by rfl, ?_⟩) ?_ ?_
  rotate_left
  · intro w'
    go_simp
    with_reducible rfl
  rotate_left
  · simp only [Act.put, List.setIfInBounds_toArray, List.set_cons_zero, List.set_cons_succ, i64_w, i32_w]
    rfl
  refine pure_ (i := 10) (N := some 39) (v := ?_) (a' := ?_) #[true, true, true, true, true, true, true, true, true, true, true, true, true, true, true, false, false, false, false] rfl rfl (by kernel_rfl) (fun _ _ _ h => h) (Or.inl ⟨by rfl, ?_⟩) ?_ ?_
  rotate_left
  · intro w'
    go_simp
    with_reducible rfl
  rotate_left
  · simp only [Act.put, List.setIfInBounds_toArray, List.set_cons_zero, List.set_cons_succ, i64_w, i32_w]
    rfl
  refine pure_ (i := 15) (N := some 44) (v := ?_) (a' := ?_) #[true, true, true, true, true, true, true, true, true, true, true, true, true, true, true, true, false, false, false] rfl rfl (by kernel_rfl) (fun _ _ _ h => h) (Or.inl ⟨by rfl, ?_⟩) ?_ ?_
  rotate_left
  · intro w'
    go_simp
    with_reducible rfl
  rotate_left
  · simp only [Act.put, List.setIfInBounds_toArray, List.set_cons_zero, List.set_cons_succ, i64_w, i32_w]
    rfl
  have hsh : wrap64 (2 * (2 : Int) ^ min h 64) = P := by
    rw [Nat.min_eq_left (by have := HHB.out; omega), ← i64_w, shl_two h HHB.out]; exact HPP.out.symm
  rw [hsh]
  clear hsh
  refine pure_ (i := 16) (N := some 45) (v := ?_) (a' := ?_) #[true, true, true, true, true, true, true, true, true, true, true, true, true, true, true, true, true, false, false] rfl rfl (by kernel_rfl) (fun _ _ _ h => h) (Or.inl ⟨by rfl, ?_⟩) ?_ ?_
  rotate_left
  · intro w'
    go_simp
    with_reducible rfl
  rotate_left
  · simp only [Act.put, List.setIfInBounds_toArray, List.set_cons_zero, List.set_cons_succ, i64_w, i32_w]
    rfl
  refine one_ (i := 17) (N := some 46) #[true, true, true, true, true, true, true, true, true, true, true, true, true, true, true, true, true, true, false] rfl rfl (by kernel_rfl) (by decide) (fun K hK => ?_)
  refine value_ (w1 := ?_) (v := ?_) (by rfl) rfl ?_ ?_
  rotate_left 2
  · go_simp
    constructor
    · rfl
    · rfl
  have hbl : Below w5.heap.size w5 (w5.alloc (.cells #[.int .i64 4, .int .i64 (16 + 8 * (n : Int) + 2 * k), .int .i64 0, .int .i64 (2 * (n : Int)), .int .i64 P, .int .i64 (h : Int), .int .i64 (2 * (n : Int) - P)] 3)) := (Below.refl _ w5).alloc (Nat.le_refl _) _
  have HA := Lib.hid (show Kd.C (Kd.int .i64) (w5.alloc (.cells #[.int .i64 4, .int .i64 (16 + 8 * (n : Int) + 2 * k), .int .i64 0, .int .i64 (2 * (n : Int)), .int .i64 P, .int .i64 (h : Int), .int .i64 (2 * (n : Int) - P)] 3)) (some ⟨w5.heap.size, 0, none⟩) 7 (headS n (cntR L)) by
    have e := lit_C w5 [4, 16 + 8 * (n : Int) + 2 * k, 0, 2 * (n : Int), P, (h : Int), 2 * (n : Int) - P] (by simp [maxLen])
    have e2 : headS n (cntR L) = [4, 16 + 8 * (n : Int) + 2 * k, 0, 2 * (n : Int), P, (h : Int), 2 * (n : Int) - P] := by
      unfold headS
      rw [HPP.out, HK.out, ← HH.out]
    rw [e2]
    exact e)
  have HO6 := Lib.hid (HO5.out.below hbl)
  have HE6 := Lib.hid (HE5.out.keep (Keep4.below hbl))
  refine hK.out _ _ ⟨HE6.out.pb, HO6.out.n⟩ (fun hHeld2 => ?_)
  clear hK hbl
  refine norm_ (a' := ?_) ?_ ?_
  rotate_left
  · show Act.put _ (some 46) _ = _
    simp only [Act.put, List.setIfInBounds_toArray, List.set_cons_zero, List.set_cons_succ, i64_w, i32_w]
    rfl
  obtain ⟨w6, hw6⟩ : ∃ w6, w6 = w5.alloc (.cells #[.int .i64 4, .int .i64 (16 + 8 * (n : Int) + 2 * k), .int .i64 0, .int .i64 (2 * (n : Int)), .int .i64 P, .int .i64 (h : Int), .int .i64 (2 * (n : Int) - P)] 3) := ⟨_, rfl⟩
  obtain ⟨b6, hb6⟩ : ∃ b6, b6 = w5.heap.size := ⟨_, rfl⟩
  rw [← hw6] at HA HO6 HE6 hHeld2 ⊢
  rw [← hb6] at HA ⊢
  clear hw6 hb6 g1 g2 g3 g4 g5 g6
  refine one_ (i := 18) (N := some 47) #[true, true, true, true, true, true, true, true, true, true, true, true, true, true, true, true, true, true, true] rfl rfl (by kernel_rfl) (by decide) (fun K hK => ?_)
  go_simp
  refine (HO6.out.put _ 7 7 _ HA.out (by simp)).mono ?_
  rintro e' w7 ⟨⟨v7, rfl⟩, ho7, hk7⟩
  rw [List.nil_append] at ho7
  have HO7 := Lib.hid ho7
  have HE7 := Lib.hid (HE6.out.keep hk7)
  dsimp only
  refine hK.out _ _ ⟨HE7.out.pb, HO7.out.n⟩ (fun hHeld3 => ?_)
  clear hK ho7 hk7
  refine done_ (by kernel_rfl) ?_
  have HLR := Lib.hid (show ∀ x ∈ L, rightN x = true ∧ x.f1 ≤ 65535 from fun x hx => ⟨HG.out.r x hx, HG.out.m x hx⟩)
  have HHL := Lib.hid (show (headS n (cntR L)).length = 7 by rfl)
  clear hHeld hHeld2 hHeld3 hh0
  go_wp2_with fail
  refine (each_quiet 94 enters_put3 (fun x => x.f1) (fun x W _ _ => segment_Put_3.calls x.f0 x.f1 x.f2 x.f3 x.f1 W rfl) w lb pb ob nb A1 n c1 L w7 HN.out (by have := HNB.out; omega) HLR.out HE7.out.lb HE7.out.pb HE7.out.c HE7.out.t _ HO7.out (by rw [HHL.out]; have := HNB.out; omega)).mono ?_
  rintro e' w8 ⟨⟨v8, rfl⟩, ho8, hk8⟩
  obtain ⟨xs1, hxs1⟩ : ∃ xs1, xs1 = headS n (cntR L) ++ L.map (fun (x : S42) => x.f1) := ⟨_, rfl⟩
  have HX1 := Lib.hid (show xs1.length = 7 + n by rw [hxs1, List.length_append, HHL.out, List.length_map, ← HN.out])
  rw [← hxs1] at ho8
  have HO8 := Lib.hid ho8
  have HE8 := Lib.hid (HE7.out.keep hk8)
  have HXS1 := Lib.hid hxs1
  clear ho8 hk8 hxs1
  obtain ⟨q0, _⟩ := one_cell HE8.out.pb
  go_wp2_with fail
  have hbl9 : Below w8.heap.size w8 (w8.alloc (.cells #[.int .i64 0] 3)) := (Below.refl _ w8).alloc (Nat.le_refl _) _
  have HE9 := Lib.hid (HE8.out.keep (Keep4.below hbl9))
  refine ((HO8.out.below hbl9).put _ 1 1 [0] (lit_C w8 [0] (by simp [maxLen])) (by rw [HX1.out]; have := HNB.out; omega)).mono ?_
  rintro e' w9 ⟨⟨v9, rfl⟩, ho9, hk9⟩
  have HO9 := Lib.hid ho9
  have HE10 := Lib.hid (HE9.out.keep hk9)
  clear ho9 hk9 hbl9 q0
  have HX2 := Lib.hid (show (xs1 ++ [0]).length = 8 + n by rw [List.length_append, HX1.out]; simp; omega)
  go_wp2_with fail
  refine (each_quiet 95 enters_put4 (fun x => x.f0) (fun x W _ _ => segment_Put_4.calls x.f0 x.f1 x.f2 x.f3 x.f0 W rfl) w lb pb ob nb A1 n c1 L w9 HN.out (by have := HNB.out; omega) HLR.out HE10.out.lb HE10.out.pb HE10.out.c HE10.out.t _ HO9.out (by rw [HX2.out]; have := HNB.out; omega)).mono ?_
  rintro e' w10 ⟨⟨v10, rfl⟩, ho10, hk10⟩
  have HO10 := Lib.hid ho10
  have HE11 := Lib.hid (HE10.out.keep hk10)
  clear ho10 hk10
  have HX3 := Lib.hid (show (xs1 ++ [0] ++ L.map (fun (x : S42) => x.f0)).length = 8 + 2 * n by rw [List.length_append, HX2.out, List.length_map, ← HN.out]; omega)
  go_wp2_with fail
  refine (each_quiet 96 enters_put5 delS (fun x W hx hm => segment_Put_5.calls x.f0 x.f1 x.f2 x.f3 (delS x) W (put5_some hx hm)) w lb pb ob nb A1 n c1 L w10 HN.out (by have := HNB.out; omega) HLR.out HE11.out.lb HE11.out.pb HE11.out.c HE11.out.t _ HO10.out (by rw [HX3.out]; have := HNB.out; omega)).mono ?_
  rintro e' w11 ⟨⟨v11, rfl⟩, ho11, hk11⟩
  have HE12 := Lib.hid (HE11.out.keep hk11)
  obtain ⟨xs4, hxs4⟩ : ∃ xs4, xs4 = xs1 ++ [0] ++ L.map (fun (x : S42) => x.f0) ++ L.map delS := ⟨_, rfl⟩
  have HX4 := Lib.hid (show xs4.length = 8 + 3 * n by rw [hxs4, List.length_append, HX3.out, List.length_map, ← HN.out]; omega)
  rw [← hxs4] at ho11
  have HXS4 := Lib.hid hxs4
  have HO11 := Lib.hid ho11
  clear ho11 hk11 hxs4
  obtain ⟨rb, hrb⟩ : ∃ rb, rb = w11.heap.size := ⟨_, rfl⟩
  obtain ⟨tb, htb⟩ : ∃ tb, tb = rb + 1 := ⟨_, rfl⟩
  obtain ⟨w12, hw12⟩ : ∃ w12, w12 = (w11.alloc (.cells #[.slice none 0 0] 54)).alloc (.cells #[.int .i64 0] 3) := ⟨_, rfl⟩
  have hbl12 : Below w11.heap.size w11 w12 := by rw [hw12]; exact ((Below.refl _ w11).alloc (Nat.le_refl _) _).alloc (by simp) _
  have hr12 : w12.heap[rb]? = some (.cells #[.slice none 0 0] 54 (0, 0)) := by rw [hw12, hrb]; exact (Below.heap_alloc _ _ _ (by simp)).trans (World.alloc_heap_new w11 _)
  have ht12 : w12.heap[tb]? = some (.cells #[.int .i64 0] 3 (0, 0)) := by
    rw [hw12, htb, hrb]
    have e := World.alloc_heap_new (w11.alloc (.cells #[.slice none 0 0] 54)) (.cells #[.int .i64 0] 3)
    rw [World.size_alloc] at e
    exact e
  have hps : PutS w w12 ob rb tb nb n xs4 [] 0 := by
    obtain ⟨vo, h1, h3⟩ := HO11.out.o
    have hsz := HO11.out.b.size
    have hobl := blk_lt h1
    have hnbl := blk_lt HO11.out.n
    refine ⟨⟨vo, .slice none 0 0, (hbl12.block ob hobl).trans h1, hr12, Kd.R_below (Kd.R_mono (Kd.R_bound h3) (fun k hk => ⟨hk.1, fun e => by have := hk.2.2.1; omega⟩)) hbl12, Kd.R_nil _ _ _ _ _, fun k _ e => by simp [Value.ownBlock] at e⟩, ht12, (hbl12.block nb hnbl).trans HO11.out.n, below_then HO11.out.b hsz hbl12, HO11.out.s, by omega, by omega, by omega, by omega⟩
  have HPS := Lib.hid hps
  have HE13 := Lib.hid (HE12.out.keep (Keep4.below hbl12))
  clear hbl12 hr12 ht12 hps
  go_wp2_with fail
  rw [← hrb, ← htb, ← hw12]
  clear hrb htb hw12
  refine (each_offs w lb pb ob rb tb nb A1 n c1 L w12 HN.out (by have := HNB.out; omega) (fun x hx => (HLR.out x hx).1) (by have := HNB.out; omega) HE13.out.lb HE13.out.pb HE13.out.c HE13.out.t xs4 HPS.out (by rw [HX4.out]; have := HNB.out; omega)).mono ?_
  rintro e' w13 ⟨⟨v13, rfl⟩, ho13, hk13⟩
  have HO13 := Lib.hid ho13
  have HE14 := Lib.hid (HE13.out.keep hk13)
  clear ho13 hk13
  have HX5 := Lib.hid (show (xs4 ++ offsS 0 L).length = 8 + 4 * n by rw [List.length_append, HX4.out, offs_length, ← HN.out]; omega)
  obtain ⟨q0, _⟩ := one_cell HE14.out.pb
  obtain ⟨vo, vr, h1, h2, h3, h4, h5⟩ := HO13.out.o
  obtain ⟨Ar, kr, rfl⟩ := Kd.R_slice h4
  obtain ⟨q1, _⟩ := one_cell h2
  obtain ⟨_, _, hne, _, hCr⟩ := Kd.R_reads h4
  injection hne with hn1 hn2 hn3
  subst hn1
  have HCR := Lib.hid hCr
  have HRL := Lib.hid (rest_length L)
  clear h1 h2 h3 h4 h5 hn2 hn3 hCr
  obtain ⟨m, hm⟩ : ∃ m, m = (restS L).length := ⟨_, rfl⟩
  rw [← hm] at q1 HCR HRL
  clear hm
  go_wp2_with fail
  refine (PutS.put HO13.out _ m kr _ HCR.out (by rw [HX5.out, HRL.out]; have := HNB.out; omega)).mono ?_
  rintro e' w14 ⟨⟨v14, rfl⟩, ho14, hk14⟩
  obtain ⟨out, hout⟩ : ∃ out, out = xs4 ++ offsS 0 L ++ restS L := ⟨_, rfl⟩
  rw [← hout] at ho14
  have HOUT := Lib.hid (show out = outS L (cntR L) by
    rw [hout, HXS4.out, HXS1.out, HN.out]; exact out_parts L (cntR L))
  have HB14 := Lib.hid ho14.b
  obtain ⟨vo, vr, h1, h2, h3, h4, h5⟩ := ho14.o
  obtain ⟨Ao, ko, rfl⟩ := Kd.R_slice h3
  obtain ⟨_, _, hne, hko, hCo⟩ := Kd.R_reads h3
  injection hne with hn1 hn2 hn3
  subst hn1
  subst hn3
  have HKO' := Lib.hid hko
  obtain ⟨q2, _⟩ := one_cell h1
  obtain ⟨m2, hm2⟩ : ∃ m2, m2 = out.length := ⟨_, rfl⟩
  rw [← hm2] at hCo q2 h1
  have HM2 := Lib.hid hm2
  have HKO := Lib.hid (show m2 ≤ ko by rw [hm2]; exact HKO'.out)
  have HCO := Lib.hid hCo
  have HOB := Lib.hid h1
  have HML := Lib.hid (show m2 ≤ 131072 by
    rw [hm2, HOUT.out, out_length]; have := HNB.out; have := HN.out; omega)
  clear h1 h2 h3 h4 h5 hn2 hCo ho14 hk14 hout hm2 q0 q1 q2 hko HKO'
  go_upto_region 18 with (fail)
  refine wp_mono (Q := Exit.then ?_ (fun _ _ _ => False)) ?_ ?_
  rotate_left 2
  · intro e a w h
    cases e with
    | normal => exact h
    | _ => exact (show False from h).elim
  refine start_ (n := 10) (S := fun u => Below w14.heap.size w14 u) (ds := []) #[false, false, false, false, false, false, false, false, false, false] (by kernel_rfl) rfl rfl (below_drew1 (Below.refl _ _)) (fun hHeld => ?_)
  obtain ⟨wd, hwd⟩ : ∃ wd, wd = w14.drew := ⟨_, rfl⟩
  rw [← hwd] at hHeld ⊢
  clear hwd
  have hm0 : (0 : Int) ≤ (m2 : Int) := by omega
  refine take_ (i := 1) (N := some 65) (v := ?_) (a' := ?_) #[false, true, false, false, false, false, false, false, false, false] rfl rfl (by kernel_rfl) (fun _ _ _ h => h) (Or.inl ⟨by rfl, ?_⟩) hHeld ?_ ?_
  rotate_left
  · rintro w' s0
    have q0 := (one_cell ((s0.block ob (blk_lt HOB.out)).trans HOB.out)).1
    go_simp
    with_reducible rfl
  rotate_left
  · simp only [Act.put, List.setIfInBounds_toArray, List.set_cons_zero, List.set_cons_succ, i64_w, i32_w]
    rfl
  refine take_ (i := 4) (N := some 68) (v := ?_) (a' := ?_) #[false, true, false, false, true, false, false, false, false, false] rfl rfl (by kernel_rfl) (fun _ _ _ h => h) (Or.inl ⟨by rfl, ?_⟩) hHeld ?_ ?_
  rotate_left
  · rintro w' s0
    have q0 := (one_cell ((s0.block ob (blk_lt HOB.out)).trans HOB.out)).1
    go_simp
    with_reducible rfl
  rotate_left
  · simp only [Act.put, List.setIfInBounds_toArray, List.set_cons_zero, List.set_cons_succ, i64_w, i32_w]
    rfl
  refine pure_ (i := 2) (N := some 66) (v := ?_) (a' := ?_) #[false, true, true, false, true, false, false, false, false, false] rfl rfl (by kernel_rfl) (fun _ _ _ h => h) (Or.inl ⟨by rfl, ?_⟩) ?_ ?_
  rotate_left
  · intro w'
    go_simp
    with_reducible rfl
  rotate_left
  · simp only [Act.put, List.setIfInBounds_toArray, List.set_cons_zero, List.set_cons_succ, i64_w, i32_w]
    rfl
  refine one_ (i := 0) (N := some 64) #[true, true, true, false, true, false, false, false, false, false] rfl rfl (by kernel_rfl) (by decide) (fun K hK => ?_)
  refine value_ (w1 := ?_) (v := ?_) (by rfl) rfl ?_ ?_
  rotate_left 2
  · go_simp
    constructor
    · rfl
    · rfl
  have hbl : Below wd.heap.size wd (wd.alloc (.cells #[.int .i64 2] 3)) := (Below.refl _ wd).alloc (Nat.le_refl _) _
  have HA := Lib.hid (show Kd.C (Kd.int .i64) (wd.alloc (.cells #[.int .i64 2] 3)) (some ⟨wd.heap.size, 0, none⟩) ([2] : List Int).length [2] from lit_C wd [2] (by simp [maxLen]))
  refine hK.out _ _ (below_then hHeld hHeld.size hbl) (fun hHeld2 => ?_)
  clear hK hbl
  refine norm_ (a' := ?_) ?_ ?_
  rotate_left
  · show Act.put _ (some 64) _ = _
    simp only [Act.put, List.setIfInBounds_toArray, List.set_cons_zero, List.set_cons_succ, i64_w, i32_w]
    rfl
  obtain ⟨we, hwe⟩ : ∃ we, we = wd.alloc (.cells #[.int .i64 2] 3) := ⟨_, rfl⟩
  obtain ⟨b7, hb7⟩ : ∃ b7, b7 = wd.heap.size := ⟨_, rfl⟩
  rw [← hwe] at HA hHeld2 ⊢
  rw [← hb7] at HA ⊢
  clear hwe hb7
  refine one_ (i := 3) (N := some 67) #[true, true, true, true, true, false, false, false, false, false] rfl rfl (by kernel_rfl) (by decide) (fun K hK => ?_)
  go_simp
  go_at_call 59
  refine (slices_Repeat_int_int.calls _ 1 [2] (m2 : Int) (repN [2] m2) we HA.out (Nat.le_refl _) (rep_told m2 HML.out)).mono ?_
  rintro e' wf ⟨vf, rfl, hrf, hbf⟩
  obtain ⟨Af, kf, rfl⟩ := Kd.R_slice hrf
  obtain ⟨_, _, hne, hkl, hCf⟩ := Kd.R_reads hrf
  injection hne with hn1 hn2 hn3
  subst hn1
  subst hn3
  have hrl : (repN [2] m2).length = m2 := rep_one 2 m2
  rw [hrl] at hCf hkl ⊢
  have HCF := Lib.hid hCf
  have HKL := Lib.hid hkl
  dsimp only
  refine hK.out _ _ (below_then hHeld2 hHeld2.size hbf) (fun hHeld3 => ?_)
  clear hK hrf hbf hCf hn2 hrl hkl
  refine one_ (i := 5) (N := some 69) #[true, true, true, true, true, true, false, false, false, false] rfl rfl (by kernel_rfl) (by decide) (fun K hK => ?_)
  go_simp
  go_at_call 56
  have hput := put_words out (by rw [HOUT.out]; exact out_fits HG.out) (by rw [← HM2.out]; have := HML.out; omega)
  rw [← HM2.out] at hput
  have hrl : (repN [2] m2).length = m2 := rep_one 2 m2
  have hcall := bin_Put.calls Af kf (repN [2] m2) Ao ko out _ _ wf (by rw [hrl]; exact HCF.out) (by rw [hrl]; exact HKL.out) (by rw [← HM2.out]; exact Kd.C_below HCO.out hHeld3) (by rw [← HM2.out]; exact HKO.out) hput
  rw [hrl, ← HM2.out] at hcall
  refine hcall.mono ?_
  rintro e' wg ⟨rfl, hbg⟩
  have HBG := Lib.hid (below_then hHeld3 hHeld3.size hbg)
  dsimp only
  refine hK.out _ _ HBG.out (fun _ => ?_)
  clear hK hbg hput hrl hcall
  refine pure_ (i := 6) (N := some 70) (v := ?_) (a' := ?_) #[true, true, true, true, true, true, true, false, false, false] rfl rfl (by kernel_rfl) (fun _ _ _ h => h) (Or.inl ⟨by rfl, ?_⟩) ?_ ?_
  rotate_left
  · intro w'
    go_simp
    with_reducible rfl
  rotate_left
  · simp only [Act.put, List.setIfInBounds_toArray, List.set_cons_zero, List.set_cons_succ, i64_w, i32_w]
    rfl
  refine pure_ (i := 7) (N := some 71) (v := ?_) (a' := ?_) #[true, true, true, true, true, true, true, true, false, false] rfl rfl (by kernel_rfl) (fun _ _ _ h => h) (Or.inl ⟨by rfl, ?_⟩) ?_ ?_
  rotate_left
  · intro w'
    go_simp
    with_reducible rfl
  rotate_left
  · simp only [Act.put, List.setIfInBounds_toArray, List.set_cons_zero, List.set_cons_succ, i64_w, i32_w]
    rfl
  refine pure_ (i := 8) (N := some 2) (v := ?_) (a' := ?_) #[true, true, true, true, true, true, true, true, true, false] rfl rfl (by kernel_rfl) (fun _ _ _ h => h) (Or.inl ⟨by rfl, ?_⟩) ?_ ?_
  rotate_left
  · intro w'
    go_simp
    with_reducible rfl
  rotate_left
  · simp only [Act.put, List.setIfInBounds_toArray, List.set_cons_zero, List.set_cons_succ, i64_w, i32_w]
    rfl
  refine pure_ (i := 9) (N := some 3) (v := ?_) (a' := ?_) #[true, true, true, true, true, true, true, true, true, true] rfl rfl (by kernel_rfl) (fun _ _ _ h => h) (Or.inl ⟨by rfl, ?_⟩) ?_ ?_
  rotate_left
  · intro w'
    go_simp
    with_reducible rfl
  rotate_left
  · simp only [Act.put, List.setIfInBounds_toArray, List.set_cons_zero, List.set_cons_succ, i64_w, i32_w]
    rfl
  refine done_ (by kernel_rfl) ?_
  have HBE := Lib.hid (HB14.out.trans (HBG.out.mono HB14.out.size))
  rw [HOUT.out]
  go_wp2
  go_ret2
  exact ⟨rfl, HBE.out⟩
def segment_Put.f (l0 : List S42) : Option (ByteArray × Int) := some (putS l0)
theorem segment_Put.calls (A0 : Option Addr) (c0 : Nat) (l0 : List S42) (r1 : ByteArray) (r2 : Int) (w : World) (hr0 : Kd.C k42 w A0 l0.length l0) (hc0 : l0.length ≤ c0) (h : segment_Put.f l0 = some (r1, r2)) :
    Calls Try.prog 51 #[.slice A0 l0.length c0] w fun e w' => e = .returned (.tuple #[.string r1, .int .i64 r2]) ∧ Below w.heap.size w w' := by
  have hr := Option.some.inj h
  obtain ⟨L, k, e, hs⟩ : ∃ L k e, segP l0 = (L, k, e) := ⟨_, _, _, rfl⟩
  by_cases he : e = 0
  · subst he
    have h0 : (putS l0).2 = 0 := by unfold putS; rw [hs, if_neg (show ¬ ((0 : Int) ≠ 0) by decide)]
    obtain ⟨L', k', hs', hp⟩ := putS_ok h0
    rw [hs] at hs'
    obtain ⟨rfl, _⟩ := Prod.mk.inj hs'
    have h1 : r1 = ⟨(bytesS (outS L (cntR L))).toArray⟩ := by rw [← hp, hr]
    have h2 : r2 = 0 := by rw [← h0, hr]
    rw [h1, h2]
    exact sput_ok A0 c0 l0 w hr0 hc0 L k hs
  · have hp : putS l0 = (⟨#[]⟩, e) := by unfold putS; rw [hs, if_pos he]
    rw [hp] at hr
    obtain ⟨rfl, rfl⟩ := Prod.mk.inj hr
    exact sput_bad A0 c0 l0 w hr0 hc0 L k e hs he
end Go.Proofs.Ytgifenlfklbdgaa.P
