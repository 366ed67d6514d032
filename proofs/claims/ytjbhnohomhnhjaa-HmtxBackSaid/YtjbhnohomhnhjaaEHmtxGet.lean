/- hmtx.Get, told plainly: its walk and its contract. No condition. -/
import Derived.Test.YtjbhnohomhnhjaaEHmtxA
import Derived.Deep.WholeRow
namespace Go.Proofs.Ytjbhnohomhnhjaa.P
open Go.RowKit Go.Shelf Go.Proofs.YtjbhnohomhnhjaaW.PrintWords Go.Proofs.YtjbhnohomhnhjaaW.PrintLast Go.Proofs.YtjbhnohomhnhjaaW.PrintMore
set_option linter.unusedSimpArgs false
set_option linter.unusedVariables false
attribute [local go_sem] Oper.semAt_some
attribute [local go_sem] max2_int min2_int max_two min_two max_three min_three max_four min_four
theorem lit_C (w : World) (l : List Int) (h : l.length ≤ maxLen) : Kd.C (Kd.int .i64) (w.alloc (.cells (l.map (Value.int .i64)).toArray 3)) (some ⟨w.heap.size, 0, none⟩) l.length l := by
  have ho := World.ownsRow_lit (base := 0) (e := 3) (size := 1) w (l.map (Value.int .i64)).toArray l.length (Nat.zero_le _) h (by simp)
  have hr : Kd.R (Kd.int .i64) 3 (w.alloc (.cells (l.map (Value.int .i64)).toArray 3)) 0 (fun _ => True) (.slice (some ⟨w.heap.size, 0, none⟩) l.length l.length) l := Kd.R_of_own (by simpa [encs] using ho) (fun _ _ => trivial)
  obtain ⟨A, c, e, _, hC⟩ := Kd.R_reads hr
  injection e with e1 e2 e3
  rw [e1]; exact hC
theorem row_block {W : World} {base : Nat} {ok : Nat → Prop} {v : Value} {xs : List Int} (h : Kd.R (Kd.int .i64) 3 W base ok v xs) (hn : 0 < xs.length) :
    ∃ ga cap, v = .slice (some ⟨ga, 0, none⟩) xs.length cap ∧ base ≤ ga ∧ ga < W.heap.size ∧ xs.length ≤ cap ∧ cap ≤ maxLen ∧ ∀ j, j < xs.length → W.cell? ⟨ga, j, none⟩ = some (.int .i64 (rd xs (j : Int))) := by
  have ho := Kd.own_of_R h
  rcases ho.2 with ⟨_, h0⟩ | ⟨g, cap, cur, rfl, hb, hg, hnc, hcm, hcs, ht⟩
  · omega
  · refine ⟨g, cap, rfl, hb, blk_lt hg, hnc, hcm, fun j hj => ?_⟩
    have := ho.cellAt j (by omega)
    rw [this]
    unfold encs rd
    simp [List.getD_eq_getElem?_getD, List.getElem?_eq_getElem hj]
theorem get_begins (w4 : World) (m kx gx : Nat) (X : List Int) (w5 : World) (hgx : gx < w4.heap.size) (hcx : ∀ j, j < 2 * m → w4.cell? ⟨gx, j, none⟩ = some (.int .i64 (rd X (j : Int))))
    (hw : w5 = ((w4.alloc (.cells #[.slice none 0 0] 22)).alloc (.cells #[.slice (some ⟨gx, 0, none⟩) (2 * m) kx] 37)).alloc (.cells #[.int .i64 ((2 : Nat) : Int)] 3)) :
    RowW w4 w4.heap.size [w4.heap.size + 1, w4.heap.size + 1 + 1, gx] w5 w5 (.slice none 0 0) [] ∧ w5.cell? ⟨w4.heap.size + 1, 0, none⟩ = some (.slice (some ⟨gx, 0, none⟩) (2 * m) kx) ∧ w5.cell? ⟨w4.heap.size + 1 + 1, 0, none⟩ = some (.int .i64 ((2 : Nat) : Int)) ∧
      (∀ j, j < 2 * m → w5.cell? ⟨gx, j, none⟩ = some (.int .i64 (rd X (j : Int)))) ∧ w5.heap.size = w4.heap.size + 3 := by
  have hb : Below w4.heap.size w4 w5 := by
    rw [hw]; exact (((Below.refl _ w4).alloc (Nat.le_refl _) _).alloc (by simp) _).alloc (by simp; omega) _
  have hz : w5.heap.size = w4.heap.size + 3 := by rw [hw]; simp
  refine ⟨⟨?_, ?_, Kd.R_nil _ _ _ _ _, hb, Nat.le_refl _, KeepsB.refl _ _⟩, ?_, ?_, fun j hj => (hb.cell hgx).trans (hcx j hj), hz⟩
  · rw [hw]; simp [go_sem]
  · rw [hw]; simp [go_sem]
  · rw [hw]; simp [go_sem]
  · rw [hw]; simp [go_sem]
theorem cell_al {W : World} {a : Addr} {v : Value} (o : Obj) (h : W.cell? a = some v) : (W.alloc o).cell? a = some v := (((Below.refl _ W).alloc (Nat.le_refl _) o).cell (World.block_lt_of_cell? _ _ h)).trans h
/-- The row in its box B, the last metric in its box L, and the mark's block D. -/
structure RowL (w : World) (B L D : Nat) (W : World) (v : Value) (xs : List S34) (f0 sd : Int) : Prop where
  c : W.cell? ⟨B, 0, none⟩ = some v
  z : W.frozen? ⟨B, 0, none⟩ = false
  l0 : W.cell? ⟨L, 0, none⟩ = some (.int .i64 f0)
  l1 : W.cell? ⟨L, 1, none⟩ = some (.int .i64 sd)
  y1 : W.frozen? ⟨L, 1, none⟩ = false
  d : W.heap[D]? = some (.deferred (some []))
  r : Kd.R k34 34 W w.heap.size (fun k => k ≠ B ∧ k ≠ L) v xs
  hB : Below w.heap.size w W
namespace RowL
variable {w W U : World} {B L D : Nat} {v v1 : Value} {xs ys : List S34} {f0 sd : Int}
theorem side (h : RowL w B L D W v xs f0 sd) (hBL : B ≠ L) (hLD : L ≠ D) (hwL : w.heap.size ≤ L) (s : Int) : RowL w B L D (W.setCell ⟨L, 1, none⟩ (.int .i64 s)) v xs f0 s := by
  have nB : (⟨L, 1, none⟩ : Addr) ≠ ⟨B, 0, none⟩ := fun e => hBL (congrArg Addr.block e).symm
  have n0 : (⟨L, 1, none⟩ : Addr) ≠ ⟨L, 0, none⟩ := fun e => by have := congrArg Addr.off e; simp at this
  refine ⟨(World.cell?_setCell_other _ _ _ _ nB).trans h.c, by rw [World.frozen?_setCell]; exact h.z, (World.cell?_setCell_other _ _ _ _ n0).trans h.l0, World.cell?_setCell_same _ _ _ h.l1, by rw [World.frozen?_setCell]; exact h.y1,
    (Below.heap_setCell W ⟨L, 1, none⟩ _ D (Ne.symm hLD)).trans h.d, Kd.R_far h.r (fun k hk => hk.2) _, h.hB.setCell hwL _⟩
theorem grew (h : RowL w B L D W v xs f0 sd) (hBL : B ≠ L) (hBD : B ≠ D) (hwB : w.heap.size ≤ B) (hr : Kd.R k34 34 U w.heap.size (fun k => k ≠ B ∧ k ≠ L) v1 ys) (hb : Below w.heap.size w U) (hg : W.grownBy U v.ownBlock) :
    U.cell? ⟨B, 0, none⟩ = some v ∧ U.frozen? ⟨B, 0, none⟩ = false ∧ RowL w B L D (U.setCell ⟨B, 0, none⟩ v1) v1 ys f0 sd := by
  have own := fun k (hk : v.ownBlock = some k) => (Kd.R_bound h.r).1 k hk
  have eB : U.heap[B]? = W.heap[B]? := hg.block B (World.block_lt_of_cell? _ _ h.c) (fun e => (own B e.symm).1.1 rfl)
  have eL : U.heap[L]? = W.heap[L]? := hg.block L (World.block_lt_of_cell? _ _ h.l0) (fun e => (own L e.symm).1.2 rfl)
  have eD : U.heap[D]? = W.heap[D]? := hg.block D (blk_lt h.d) (fun e => by
    obtain ⟨_, _, _, q, _, cells, hc⟩ := own D e.symm
    rw [h.d] at hc
    injection hc with hc
    cases hc)
  have c1 := (cell_of (a := ⟨B, 0, none⟩) eB).trans h.c
  have z1 := (frozen_of (a := ⟨B, 0, none⟩) eB).trans h.z
  have nL : ∀ j, (⟨B, 0, none⟩ : Addr) ≠ ⟨L, j, none⟩ := fun j e => hBL (congrArg Addr.block e)
  refine ⟨c1, z1, World.cell?_setCell_same _ _ _ c1, by rw [World.frozen?_setCell]; exact z1, (World.cell?_setCell_other _ _ _ _ (nL 0)).trans ((cell_of (a := ⟨L, 0, none⟩) eL).trans h.l0), (World.cell?_setCell_other _ _ _ _ (nL 1)).trans ((cell_of (a := ⟨L, 1, none⟩) eL).trans h.l1),
    by rw [World.frozen?_setCell]; exact (frozen_of (a := ⟨L, 1, none⟩) eL).trans h.y1, (Below.heap_setCell U ⟨B, 0, none⟩ _ D (Ne.symm hBD)).trans (eD.trans h.d), Kd.R_far hr (fun k hk => hk.1) _, hb.setCell hwB _⟩
theorem begins {w3 : World} {ks : List Nat} (h : RowW w B ks w3 W v xs) (hB3 : B < w3.heap.size) (hd : W.heap[D]? = some (.deferred (some []))) : RowL w B W.heap.size D (W.alloc (.cells #[.int .i64 f0, .int .i64 sd] 34)) v xs f0 sd := by
  have hb := (Below.refl W.heap.size W).alloc (Nat.le_refl _) (.cells #[.int .i64 f0, .int .i64 sd] 34)
  have hBW : B < W.heap.size := Nat.lt_of_lt_of_le hB3 h.hS
  refine ⟨(hb.cell hBW).trans h.c, (hb.frozen hBW).trans h.z, by simp [go_sem], by simp [go_sem], by simp [go_sem], (hb.block D (blk_lt hd)).trans hd, ?_, h.hB.trans (hb.mono h.hB.size)⟩
  refine Kd.R_mono (Kd.R_below (Kd.R_bound h.r) hb) (fun k hk => ⟨?_, ?_⟩)
  · have := hk.1; omega
  · have := hk.2.2.1; omega
theorem final (h : RowL w B L D W v xs f0 sd) (hwD : w.heap.size ≤ D) : Kd.R k34 34 (W.putObj D (.deferred none)) w.heap.size (fun _ => True) v xs ∧ Below w.heap.size w (W.putObj D (.deferred none)) := by
  have hg := grownBy_putObj' W D (.deferred none)
  refine ⟨Kd.R_mono (Kd.R_grown (Kd.R_bound h.r) hg (fun k hk e => ?_)) (fun _ _ => trivial), h.hB.grown hg h.hB.size (fun k e => by cases e; exact hwD)⟩
  obtain ⟨_, _, _, q, _, cells, hc⟩ := hk
  cases e
  rw [h.d] at hc
  injection hc with hc
  cases hc
end RowL
theorem len_rows (X Y : List Int) (m i : Nat) (f0 : Int) (gm : Nat) (hm : m ≤ 65535) (hg : gm ≤ 65535) (hi : i ≤ gm) : (pairsM X m ++ (Y.take i).map (fun b => (⟨f0, b⟩ : S34))).length ≤ 131070 := by
  rw [List.length_append, List.length_map, List.length_take]
  have : (pairsM X m).length = m := by simp [pairsM]
  omega
theorem len_bytes {n : Nat} (h : n ≤ 131070) : (n + 1) * 16 ≤ 140737488355328 := by omega
theorem far_two {a b n k : Nat} (h1 : a < n) (h2 : b < n) (h3 : n ≤ k) : k ≠ a ∧ k ≠ b := by omega
set_option maxRecDepth 100000 in
set_option maxHeartbeats 4000000 in
theorem hmtx_get_walk (s : ByteArray) (g m : Nat) (w : World) (hm1 : 1 ≤ m) (hmg : m ≤ g) (hg : g ≤ 65535) (hs : 4 * m + 2 * (g - m) ≤ s.size) (X Y : List Int) (hX : getN s 0 (repN [2, -2] m) = (X, 0)) (hXl : X.length = 2 * m) (hY : getN s ((4 * m : Nat) : Int) (repN [-2] (g - m)) = (Y, 0)) (hYl : Y.length = g - m) :
    Calls Try.prog 6 #[.string s, .int .i64 (g : Int), .int .i64 (m : Int)] w fun e w' => ∃ v0_ : Value, e = .returned (.tuple #[v0_, .int .i64 0]) ∧ Kd.R k34 34 w' w.heap.size (fun _ => True) v0_ (rowM X Y m) ∧ Below w.heap.size w w' := by
  have d1 : decide ((g : Int) < 1) = false := decide_eq_false (by omega)
  have d2 : decide ((65535 : Int) < (g : Int)) = false := decide_eq_false (by omega)
  have d3 : decide ((m : Int) < 1) = false := decide_eq_false (by omega)
  have d4 : decide ((g : Int) < (m : Int)) = false := decide_eq_false (by omega)
  have d6 : decide (g < m) = false := decide_eq_false (by omega)
  have w1_ : wrap64 (4 * (m : Int)) = ((4 * m : Nat) : Int) := by unfold wrap64; omega
  have w2_ : wrap64 ((g : Int) - (m : Int)) = ((g - m : Nat) : Int) := by unfold wrap64; omega
  have w3_ : wrap64 (2 * ((g - m : Nat) : Int)) = ((2 * (g - m) : Nat) : Int) := by unfold wrap64; omega
  have w4_ : wrap64 (((4 * m : Nat) : Int) + ((2 * (g - m) : Nat) : Int)) = ((4 * m + 2 * (g - m) : Nat) : Int) := by unfold wrap64; omega
  have d5 : decide ((s.size : Int) < ((4 * m + 2 * (g - m) : Nat) : Int)) = false := decide_eq_false (by omega)
  have HM := Lib.hid (show 1 ≤ m ∧ m ≤ g ∧ g ≤ 65535 from ⟨hm1, hmg, hg⟩)
  have HX := Lib.hid hX
  have HXL := Lib.hid hXl
  have HY := Lib.hid hY
  have HYL := Lib.hid hYl
  have d7 : decide (s.size < 4 * m + 2 * (g - m)) = false := decide_eq_false (by omega)
  obtain ⟨m4, hm4⟩ : ∃ m4, m4 = 4 * m := ⟨_, rfl⟩
  obtain ⟨gm, hgm⟩ : ∃ gm, gm = g - m := ⟨_, rfl⟩
  obtain ⟨tot, htot⟩ : ∃ tot, tot = 4 * m + 2 * (g - m) := ⟨_, rfl⟩
  obtain ⟨gm2, hgm2⟩ : ∃ gm2, gm2 = 2 * (g - m) := ⟨_, rfl⟩
  rw [← htot] at w4_ d5 d7
  rw [← hgm2] at w3_ w4_
  rw [← hgm] at w2_ w3_ HY HYL
  rw [← hm4] at w1_ w4_ HY
  have HM4 := Lib.hid hm4
  have HGM := Lib.hid hgm
  clear hm1 hmg hg hs hX hXl hY hYl htot hgm2 hm4 hgm
  refine (callsIn_wide (n := 9)).1 (callsIn_of_wp_marks Try.func6 rfl trivial (wpIn_wide.2 ?_) rfl)
  simp only [Try.ntmps6, List.size_toArray, List.length_cons, List.length_nil, Nat.reduceAdd, Nat.reduceSub, Array.replicate_succ, Array.replicate_zero, List.push_toArray, List.append_toArray, List.nil_append, List.cons_append]
  go_wp2_with fail
  have C1 := lit_C w [2, -2] (by decide)
  refine (hmtx_sizes.calls (m : Int) _ 2 [2, -2] (repN [2, -2] m) _ C1 (by decide) (by have := HM.out; unfold slices_Repeat.f; rw [if_pos (by refine ⟨by omega, by omega, by decide, ?_⟩; show 2 * (m : Int).toNat ≤ _; omega), Int.toNat_natCast])).mono ?_
  rintro e w1 ⟨v, rfl, hr, hb⟩
  obtain ⟨A1, k1, rfl⟩ := Kd.R_slice hr
  have hl1 : (repN [2, -2] m).length = 2 * m := by rw [repN_length]; rfl
  have B1 := Lib.hid ((below_alloc (Below.refl w.heap.size w) _).trans (hb.mono (by simp)))
  obtain ⟨_, _, e0, hk1, C2⟩ := Kd.R_reads hr
  injection e0 with e1 e2 e3
  subst e1
  subst e3
  have HC2 := Lib.hid C2
  have HK1 := Lib.hid hk1
  clear hr hb C1 C2 hk1 e2
  go_wp2_with fail
  have hc1 := bin_Get.calls s 0 A1 k1 (repN [2, -2] m) X 0 w1 HC2.out HK1.out (by unfold bin_Get.f; rw [if_pos (by rw [hl1]; have := HM.out; omega), HX.out])
  rw [hl1] at hc1
  refine hc1.mono ?_
  clear hc1
  rintro e w2 ⟨v, rfl, hr, hb⟩
  obtain ⟨gx, kx, rfl, hgx1, hgx2, hkx1, hkx2, hcx⟩ := row_block hr (by rw [HXL.out]; have := HM.out; omega)
  rw [HXL.out] at hkx1 hcx ⊢
  have B2 := Lib.hid (B1.out.trans (hb.mono B1.out.size))
  have HGX := Lib.hid (show w1.heap.size ≤ gx ∧ gx < w2.heap.size ∧ 2 * m ≤ kx ∧ kx ≤ maxLen from ⟨hgx1, hgx2, hkx1, hkx2⟩)
  have HCX := Lib.hid hcx
  clear hr hb hgx1 hgx2 hkx1 hkx2 hcx hl1 HC2 HK1
  go_wp2_with fail
  have C1 := lit_C w2 [-2] (by decide)
  refine (hmtx_sizes.calls (gm : Int) _ 1 [-2] (repN [-2] gm) _ C1 (by decide) (by have := HM.out; have := HGM.out; unfold slices_Repeat.f; rw [if_pos (by refine ⟨by omega, by omega, by decide, ?_⟩; show 1 * (gm : Int).toNat ≤ _; omega), Int.toNat_natCast])).mono ?_
  rintro e w3 ⟨v, rfl, hr, hb⟩
  obtain ⟨A3, k3, rfl⟩ := Kd.R_slice hr
  have hl3 : (repN [-2] gm).length = gm := by rw [repN_length]; exact Nat.one_mul _
  have hb3 : Below w2.heap.size w2 w3 := (below_alloc (Below.refl w2.heap.size w2) _).trans (hb.mono (by simp))
  have B3 := Lib.hid (B2.out.trans (hb3.mono B2.out.size))
  have HCX3 := Lib.hid (show ∀ j, j < 2 * m → w3.cell? ⟨gx, j, none⟩ = some (.int .i64 (rd X (j : Int))) from fun j hj => (hb3.cell HGX.out.2.1).trans (HCX.out j hj))
  have HS3 := Lib.hid hb3.size
  obtain ⟨_, _, e0, hk3, C2⟩ := Kd.R_reads hr
  injection e0 with e1 e2 e3
  subst e1
  subst e3
  have HC3 := Lib.hid C2
  have HK3 := Lib.hid hk3
  clear hr hb C1 C2 hk3 e2 hb3 HCX
  go_wp2_with fail
  have hc2 := bin_Get.calls s (m4 : Int) A3 k3 (repN [-2] gm) Y 0 w3 HC3.out HK3.out (by unfold bin_Get.f; rw [if_pos (by rw [hl3]; have := HM.out; have := HGM.out; omega), HY.out])
  rw [hl3] at hc2
  refine hc2.mono ?_
  clear hc2
  rintro e w4 ⟨v, rfl, hr, hb⟩
  obtain ⟨AY, kY, rfl⟩ := Kd.R_slice hr
  obtain ⟨_, _, e0, hkY, CY⟩ := Kd.R_reads hr
  injection e0 with e1 e2 e3
  subst e1
  subst e3
  rw [HYL.out] at CY hkY ⊢
  have B4 := Lib.hid (B3.out.trans (hb.mono B3.out.size))
  have HCX4 := Lib.hid (show ∀ j, j < 2 * m → w4.cell? ⟨gx, j, none⟩ = some (.int .i64 (rd X (j : Int))) from fun j hj => (hb.cell (Nat.lt_of_lt_of_le HGX.out.2.1 HS3.out)).trans (HCX3.out j hj))
  have HGX4 := Lib.hid (show gx < w4.heap.size from Nat.lt_of_lt_of_le HGX.out.2.1 (Nat.le_trans HS3.out hb.size))
  have HCY := Lib.hid CY
  have HKY := Lib.hid hkY
  clear hr hb CY hkY e2 hl3 HC3 HK3 HCX3 HS3
  go_wp2_with fail
  have hch := chunk_calls (some ⟨gx, 0, none⟩) (2 * m) kx 2 (by decide) (by decide) (w4.alloc (.cells #[.slice none 0 0] 22))
  refine hch.mono ?_
  clear hch
  rintro e w5 ⟨rfl, hw5⟩
  obtain ⟨P5, Q5, R5, S5, T5⟩ := get_begins w4 m kx gx X w5 HGX4.out HCX4.out hw5
  have HP5 := Lib.hid P5
  have HQ5 := Lib.hid Q5
  have HR5 := Lib.hid R5
  have HS5 := Lib.hid S5
  have HT5 := Lib.hid T5
  have hs4 : (w4.alloc (.cells #[.slice none 0 0] 22)).heap.size = w4.heap.size + 1 := by simp
  simp only [hs4]
  have HWB := Lib.hid (Nat.le_refl w4.heap.size)
  have HB3 := Lib.hid (show w4.heap.size < w5.heap.size by rw [T5]; omega)
  have HKS := Lib.hid (show ∀ k ∈ [w4.heap.size + 1, w4.heap.size + 1 + 1, gx], k < w5.heap.size from fun k hk => by have := HGX4.out; rw [T5]; simp at hk; omega)
  have HNK := Lib.hid (show w4.heap.size ∉ [w4.heap.size + 1, w4.heap.size + 1 + 1, gx] from fun hk => by have := HGX4.out; simp at hk; omega)
  clear P5 Q5 R5 S5 T5 hw5 HCX4 hs4
  go_wp2_with fail
  refine (wpIn_wide (n := 9)).1 ?_
  refine wpIn_rangeFunc_ownG (F := Fence.wide) (n := 9) rfl (by decide) (gf := 28) (lb := #[.pointer (some ⟨w4.heap.size + 1, 0, none⟩), .pointer (some ⟨w4.heap.size + 1 + 1, 0, none⟩)]) rfl trivial (enters_of Try.func28 (by kernel_rfl) rfl)
    (chunk_stops 8 (w4.heap.size + 1) (w4.heap.size + 1 + 1) gx 2 m (2 * m) kx [w4.heap.size + 1, w4.heap.size + 1 + 1, gx] w5 rfl (by decide) (by have := HM.out; omega) (by have := HM.out; omega) (by have := HGX.out; omega) (by have := HGX.out; omega) (by simp) (by simp) (by have := HT5.out; omega) (by have := HT5.out; omega) HQ5.out HR5.out)
    (fun h k => h.trans k) (keepsB_b (fun k hk => by have := HT5.out; have := HGX4.out; simp at hk; omega)) (Below.refl _ _) (fun _ => rfl)
    (fun pre W => ∃ v, RowW w4 w4.heap.size [w4.heap.size + 1, w4.heap.size + 1 + 1, gx] w5 W v (pre.map (fun x => pairM X x.1)))
    (fun _ _ _ => False) ?hI (fun _ _ _ _ _ hs _ _ => hs) ⟨_, HP5.out⟩ ?a1 ?assign ?body ?done ?stop
  case hI => exact fun s A U row ⟨v, hv⟩ hg hr => ⟨v, hv.kept HWB.out HB3.out HKS.out hg hr⟩
  case assign =>
    intro l x W K hK
    gi_wp2
    exact hK
  case body =>
    rintro l pre x W ⟨v, hv⟩ hlt
    have hx := x.2
    have ca := (hv.hK.cell (p := ⟨gx, 2 * x.1, none⟩) (by simp)).trans (HS5.out (2 * x.1) (by omega))
    have cb := (hv.hK.cell (p := ⟨gx, 2 * x.1 + 1, none⟩) (by simp)).trans (HS5.out (2 * x.1 + 1) (by omega))
    obtain ⟨fa, hfa⟩ : ∃ fa, fa = rd X ((2 * x.1 : Nat) : Int) := ⟨_, rfl⟩
    obtain ⟨fb, hfb⟩ : ∃ fb, fb = rd X ((2 * x.1 + 1 : Nat) : Int) := ⟨_, rfl⟩
    rw [← hfa] at ca
    rw [← hfb] at cb
    have HPM := Lib.hid (show pairM X x.1 = ⟨fa, fb⟩ by rw [hfa, hfb]; rfl)
    have HV := Lib.hid (RowW.kept hv (row := none) HWB.out HB3.out HKS.out (U := W.drew) ⟨rfl, rfl, rfl, Nat.le_refl _, fun _ _ _ => rfl⟩ (fun r e => by cases e))
    have HV0 := Lib.hid hv
    have HPL := Lib.hid hlt
    have HX2 := Lib.hid hx
    clear hv hfa hfb hlt hx
    gi_wp2_with fail
    refine start_in (m := 11) (S := fun u => u.cell? ⟨w4.heap.size, 0, none⟩ = some v ∧ u.cell? ⟨gx, 2 * x.1, none⟩ = some (.int .i64 fa) ∧ u.cell? ⟨gx, 2 * x.1 + 1, none⟩ = some (.int .i64 fb)) (ds := [9, 10]) #[false, false, false, false, false, false, false, false, false, false, false] (by kernel_rfl) rfl rfl (by kernel_rfl) (by rintro ⟨_, _, h⟩; exact h) ⟨HV.out.c, ca, cb⟩ (fun hHeld => ?_)
    clear ca cb
    obtain ⟨u0, hu0⟩ : ∃ u0, u0 = W.drew := ⟨_, rfl⟩
    have HG0 := Lib.hid (show W.grownBy u0 none from by rw [hu0]; exact ⟨rfl, rfl, rfl, Nat.le_refl _, fun _ _ _ => rfl⟩)
    rw [← hu0] at HV hHeld ⊢
    clear hu0
    refine pure_ (i := 1) (N := some 73) (v := ?_) (a' := ?_) #[false, true, false, false, false, false, false, false, false, false, false] rfl rfl (by kernel_rfl) (fun _ _ _ h => h) (Or.inl ⟨by rfl, ?_⟩) ?_ ?_
    rotate_left
    · intro w'
      go_simp
      with_reducible rfl
    rotate_left
    · simp only [Act.put, List.setIfInBounds_toArray, List.set_cons_zero, List.set_cons_succ, i64_w, i32_w]
      rfl
    refine pure_ (i := 2) (N := some 74) (v := ?_) (a' := ?_) #[false, true, true, false, false, false, false, false, false, false, false] rfl rfl (by kernel_rfl) (fun _ _ _ h => h) (Or.inl ⟨by rfl, ?_⟩) ?_ ?_
    rotate_left
    · intro w'
      go_simp
      with_reducible rfl
    rotate_left
    · simp only [Act.put, List.setIfInBounds_toArray, List.set_cons_zero, List.set_cons_succ, i64_w, i32_w]
      rfl
    refine pure_ (i := 4) (N := some 76) (v := ?_) (a' := ?_) #[false, true, true, false, true, false, false, false, false, false, false] rfl rfl (by kernel_rfl) (fun _ _ _ h => h) (Or.inl ⟨by rfl, ?_⟩) ?_ ?_
    rotate_left
    · intro w'
      go_simp
      with_reducible rfl
    rotate_left
    · simp only [Act.put, List.setIfInBounds_toArray, List.set_cons_zero, List.set_cons_succ, i64_w, i32_w]
      rfl
    refine pure_ (i := 5) (N := some 77) (v := ?_) (a' := ?_) #[false, true, true, false, true, true, false, false, false, false, false] rfl rfl (by kernel_rfl) (fun _ _ _ h => h) (Or.inl ⟨by rfl, ?_⟩) ?_ ?_
    rotate_left
    · intro w'
      go_simp
      with_reducible rfl
    rotate_left
    · simp only [Act.put, List.setIfInBounds_toArray, List.set_cons_zero, List.set_cons_succ, i64_w, i32_w]
      rfl
    refine take_ (i := 0) (N := some 72) (v := ?_) (a' := ?_) #[true, true, true, false, true, true, false, false, false, false, false] rfl rfl (by kernel_rfl) (fun _ _ _ h => h) (Or.inl ⟨by rfl, ?_⟩) hHeld ?_ ?_
    rotate_left
    · rintro w' s0
      obtain ⟨s1, s2, s3⟩ := s0
      go_simp
      with_reducible rfl
    rotate_left
    · simp only [Act.put, List.setIfInBounds_toArray, List.set_cons_zero, List.set_cons_succ, i64_w, i32_w]
      rfl
    refine take_ (i := 3) (N := some 75) (v := ?_) (a' := ?_) #[true, true, true, true, true, true, false, false, false, false, false] rfl rfl (by kernel_rfl) (fun _ _ _ h => h) (Or.inl ⟨by rfl, ?_⟩) hHeld ?_ ?_
    rotate_left
    · rintro w' s0
      obtain ⟨s1, s2, s3⟩ := s0
      go_simp
      with_reducible rfl
    rotate_left
    · simp only [Act.put, List.setIfInBounds_toArray, List.set_cons_zero, List.set_cons_succ, i64_w, i32_w]
      rfl
    refine take_ (i := 6) (N := some 78) (v := ?_) (a' := ?_) #[true, true, true, true, true, true, true, false, false, false, false] rfl rfl (by kernel_rfl) (fun _ _ _ h => h) (Or.inl ⟨by rfl, ?_⟩) hHeld ?_ ?_
    rotate_left
    · rintro w' s0
      obtain ⟨s1, s2, s3⟩ := s0
      go_simp
      with_reducible rfl
    rotate_left
    · simp only [Act.put, List.setIfInBounds_toArray, List.set_cons_zero, List.set_cons_succ, i64_w, i32_w]
      rfl
    refine pure_ (i := 7) (N := some 79) (v := ?_) (a' := ?_) #[true, true, true, true, true, true, true, true, false, false, false] rfl rfl (by kernel_rfl) (fun _ _ _ h => h) (Or.inl ⟨by rfl, ?_⟩) ?_ ?_
    rotate_left
    · intro w'
      go_simp
      with_reducible rfl
    rotate_left
    · simp only [Act.put, List.setIfInBounds_toArray, List.set_cons_zero, List.set_cons_succ, i64_w, i32_w]
      rfl
    refine one_ (i := 8) (N := some 80) #[true, true, true, true, true, true, true, true, true, false, false] rfl rfl (by kernel_rfl) (by decide) (fun K hK => ?_)
    refine value_ (w1 := ?_) (v := ?_) (by rfl) rfl ?_ ?_
    rotate_left 2
    · go_simp
      constructor
      · rfl
      · rfl
    refine hK.out _ _ ⟨(HV.out.kept (row := none) HWB.out HB3.out HKS.out (World.grownBy_alloc u0 _ none) (fun r e => by cases e)).c, (cell_al _ hHeld.2.1), (cell_al _ hHeld.2.2)⟩ (fun hHeld2 => ?_)
    clear hK K
    refine norm_ (a' := ?_) ?_ ?_
    rotate_left
    · show Act.put _ (some 80) _ = _
      simp only [Act.put, List.setIfInBounds_toArray, List.set_cons_zero, List.set_cons_succ, i64_w, i32_w]
      rfl
    refine last_ (i := 9) (N := some 81) #[true, true, true, true, true, true, true, true, true, true, false] rfl rfl (by kernel_rfl) (by decide) (fun K hK => ?_)
    refine Kd.R_append_step k34 (w0 := w4) w4.heap.size (by rfl) (.tmp 72) (.tmp 80) 22 34 (.agg #[(.int .i64 0), (.int .i64 0)]) 16 rfl Try.underlying22 info34 rfl (by decide) (by decide) v (pre.map (fun x => pairM X x.1)) ⟨fa, fb⟩ [.int .i64 fa, .int .i64 fb] (fun k => w5.heap.size ≤ k) (fun _ => False) rfl rfl ?aP (fun _ hk => hk.elim) ?aF ?aO ?aB ?aS ?aL ?_
    (case aP => exact k34_mkM _ _ _ ⟨fa, fb⟩)
    (case aB => exact HV.out.hB)
    (case aF => exact (fun k hk => Nat.le_trans HV.out.hS hk))
    (case aO => exact HV.out.r)
    (case aS => exact HV.out.hB.size)
    (case aL => have := HPL.out; have := HM.out; rw [List.length_map]; omega)
    intro v1 u2 ho hb hg hat
    obtain ⟨A1, k1, rfl⟩ := Kd.R_slice ho
    rw [← HPM.out] at ho
    obtain ⟨c1, z1, G1, G2, G3⟩ := HV.out.grew HWB.out HB3.out HKS.out HNK.out ho hb hg
    have HG1 := Lib.hid G1
    have HG2 := Lib.hid (show KeepsB [w4.heap.size + 1, w4.heap.size + 1 + 1, gx] W _ from fun k hk => (G2 k hk).trans (HG0.out.block k (Nat.lt_of_lt_of_le (HKS.out k hk) HV0.out.hS) (by simp)))
    have HG3 := Lib.hid (show KeepsFrom w5.heap.size W _ from RowW.keepsFrom HB3.out (fun k o hk ho hn => G3 k o ((HG0.out.block k (Array.getElem?_eq_some_iff.1 hk).1 (by simp)).trans hk) ho hn) (Nat.le_trans HG0.out.size (by have := hg.size; simpa using this)))
    clear ho hb hg hat G1 G2 G3
    refine hK.out _ _ ?_
    clear hK K
    refine norm_ (a' := ?_) ?_ ?_
    rotate_left
    · show Act.put _ (some 81) _ = _
      simp only [Act.put, List.setIfInBounds_toArray, List.set_cons_zero, List.set_cons_succ, i64_w, i32_w]
      rfl
    refine last_ (i := 10) (N := none) #[true, true, true, true, true, true, true, true, true, true, true] rfl rfl (by kernel_rfl) (by decide) (fun K hK => ?_)
    refine skip_ (w1 := ?_) (by rfl) rfl ?_ ?_
    rotate_left
    · go_simp
      rfl
    refine hK.out _ _ ?_
    clear hK K
    refine done_ (by kernel_rfl) ?_
    have eL : (pre.map (fun x => pairM X x.1) ++ [pairM X x.1]).length = pre.length + 1 := by simp
    have h1 := HG1.out
    have h2 := HG2.out
    have h3 := HG3.out
    rw [eL] at h1 h2 h3
    exact ⟨h3, h2, _, by rw [List.map_append]; exact h1⟩
  case done =>
    rintro D ys W hD rfl ⟨v, hv⟩ hdef
    obtain ⟨A7, k7, hA7⟩ := Kd.R_slice hv.r
    have hlm : ((List.finRange m).map (fun x => pairM X x.1)).length = m := by simp
    rw [hlm] at hA7
    subst hA7
    obtain ⟨_, _, e0, hk7, C7⟩ := Kd.R_reads hv.r
    injection e0 with e1 e2 e3
    subst e1
    subst e3
    rw [hlm] at C7 hk7
    have hmm := HM.out
    obtain ⟨ad, e, hx0, hx1⟩ := at_T34 C7 ((m - 1 : Nat) : Int) (by omega) (by omega)
    cases e
    have wm : wrap64 ((m : Int) - 1) = ((m - 1 : Nat) : Int) := by unfold wrap64; omega
    have q0 : (0 : Int) ≤ ((m - 1 : Nat) : Int) := by omega
    have q1 : ((m - 1 : Nat) : Int) < (m : Int) := by omega
    have cB := hv.c
    obtain ⟨f0, hf0⟩ : ∃ f0, f0 = (rd_T34 ((List.finRange m).map (fun x => pairM X x.1)) ((m - 1 : Nat) : Int)).f0 := ⟨_, rfl⟩
    obtain ⟨f1, hf1⟩ : ∃ f1, f1 = (rd_T34 ((List.finRange m).map (fun x => pairM X x.1)) ((m - 1 : Nat) : Int)).f1 := ⟨_, rfl⟩
    rw [← hf0] at hx0
    rw [← hf1] at hx1
    obtain ⟨mp, hmp⟩ : ∃ mp, mp = m - 1 := ⟨_, rfl⟩
    rw [← hmp] at hx0 hx1 wm q0 q1
    simp only [Int.toNat_natCast] at hx0 hx1
    have hz := (zero_of_info (P := Try.prog) (t := 34) (v := .agg #[.int .i64 0, .int .i64 0]) (n := 2) (by kernel_rfl)).1
    have HV := Lib.hid hv
    have HF0 := Lib.hid hf0
    have HMP := Lib.hid hmp
    have HDEF := Lib.hid hdef
    have HD := Lib.hid hD
    clear hv hk7 C7 hmm hf0 hf1 hmp hdef hD hlm e2
    replace q0 := eq_true q0
    replace q1 := eq_true q1
    go_wp2_with fail
    have HBD := Lib.hid (show w4.heap.size ≠ D ∧ W.heap.size ≠ D ∧ w4.heap.size ≠ W.heap.size ∧ w4.heap.size ≤ W.heap.size ∧ w4.heap.size ≤ D from by
      have h1 := HD.out
      have h2 := HB3.out
      have h3 := blk_lt HDEF.out
      have h4 := HV.out.hS
      omega)
    rw [wm]
    go_loopw [90] (fun v90 wr => ∃ (i : Nat) (v : Value) (sd : Int), i ≤ gm ∧ v90 = .int .i64 (i : Int) ∧ Aside0 (RowL w4 w4.heap.size W.heap.size D wr v (pairsM X m ++ (Y.take i).map (fun b => ⟨f0, b⟩)) f0 sd)) (fun v90 _ => gm - (intOf v90).toNat)
    case atStart => exact ⟨0, _, f1, Nat.zero_le _, rfl, ⟨by have := RowL.begins (f0 := f0) (sd := f1) HV.out HB3.out HDEF.out; simpa [pairsM] using this⟩⟩
    case round =>
      obtain ⟨i, v, sd, hi, rfl, HL⟩ := hrel
      by_cases hlt : i < gm
      · have q2 : (0 : Int) ≤ (i : Int) := by omega
        have q3 : (i : Int) < (gm : Int) := by omega
        have d8 : decide ((i : Int) < (gm : Int)) = true := decide_eq_true q3
        have hwi : wrap64 ((i : Int) + 1) = ((i + 1 : Nat) : Int) := by have := HGM.out; have := HM.out; unfold wrap64; omega
        obtain ⟨ay, e, hcy⟩ := Kd.at_int (Kd.C_below HCY.out HL.out.hB) (i : Int) q2 q3
        cases e
        rw [Int.toNat_natCast] at hcy
        obtain ⟨y, hy⟩ : ∃ y, y = rd Y (i : Int) := ⟨_, rfl⟩
        rw [← hy] at hcy
        have HS1 := Lib.hid (HL.out.side HBD.out.2.2.1 HBD.out.2.1 HBD.out.2.2.2.1 y)
        have c1 := HS1.out.c
        have c2 := HS1.out.l0
        have c3 := HS1.out.l1
        have z2 := HL.out.y1
        have c4 := HL.out.l1
        have hBw := World.block_lt_of_cell? _ _ HL.out.c
        have hLw := World.block_lt_of_cell? _ _ HL.out.l0
        have HBW := Lib.hid (show w4.heap.size < wr.heap.size ∧ W.heap.size < wr.heap.size from ⟨hBw, hLw⟩)
        have HTK := Lib.hid (show (Y.take (i + 1)).map (fun b => (⟨f0, b⟩ : S34)) = (Y.take i).map (fun b => ⟨f0, b⟩) ++ [⟨f0, y⟩] by
          have hiy : i < Y.length := by rw [HYL.out]; exact hlt
          rw [List.take_add_one, List.getElem?_eq_getElem hiy, List.map_append, hy]
          unfold rd
          simp [List.getD_eq_getElem?_getD, List.getElem?_eq_getElem hiy])
        have HLEN := Lib.hid (len_rows X Y m i f0 gm (by have := HM.out; omega) (by have := HM.out; have := HGM.out; omega) hi)
        obtain ⟨xs, hxs⟩ : ∃ xs, xs = pairsM X m ++ (Y.take i).map (fun b => (⟨f0, b⟩ : S34)) := ⟨_, rfl⟩
        have HXS := Lib.hid hxs
        rw [← hxs] at HS1 HLEN
        have HLEN2 := Lib.hid (show (xs.length + 1) * 16 ≤ 140737488355328 from len_bytes HLEN.out)
        have HFR := Lib.hid (show ∀ k, (wr.setCell ⟨W.heap.size, 1, none⟩ (.int .i64 y)).heap.size ≤ k → k ≠ w4.heap.size ∧ k ≠ W.heap.size from fun k hk => far_two hBw hLw (by simpa using hk))
        clear hy HL hBw hLw hxs
        replace q2 := eq_true q2
        replace q3 := eq_true q3
        go_wp2_with (at_builtin; go_loud (refine Kd.R_append k34 (w0 := w4) w4.heap.size rfl (.tmp 96) (.tmp 98) 22 34 (.agg #[(.int .i64 0), (.int .i64 0)]) 16 rfl Try.underlying22 info34 rfl (by decide) (by decide) v xs ⟨f0, y⟩ [.int .i64 f0, .int .i64 y] (fun k => k ≠ w4.heap.size ∧ k ≠ W.heap.size) (fun _ => False) rfl (by rw [World.size_setCell]; rfl) (k34_mkM _ _ _ ⟨f0, y⟩) (fun _ hk => hk.elim) HFR.out HS1.out.r HS1.out.hB HS1.out.hB.size HLEN2.out ?_))
        intro v1 u2 ho hb hg hat
        obtain ⟨A1, k1, rfl⟩ := Kd.R_slice ho
        obtain ⟨c5, z5, G1⟩ := HS1.out.grew HBD.out.2.2.1 HBD.out.1 HWB.out ho hb hg
        have eL : (xs ++ [(⟨f0, y⟩ : S34)]).length = xs.length + 1 := by simp
        rw [eL] at G1 ⊢
        have HG1 := Lib.hid G1
        clear ho hb hg hat G1 eL
        go_wp2
        go_roundw
        case rel => exact ⟨i + 1, _, y, hlt, by rw [hwi], ⟨by have := HG1.out; rw [HXS.out, List.append_assoc, ← HTK.out] at this; rw [HXS.out]; exact this⟩⟩
        case measure => rw [hwi]; exact less_step (by decide) hlt
      · have hig : i = gm := by omega
        subst hig
        have d8 : decide ((i : Int) < (i : Int)) = false := decide_eq_false (by omega)
        have cB := HL.out.c
        have HR := Lib.hid (HL.out.final HBD.out.2.2.2.2)
        have HD2 := Lib.hid HL.out.d
        have HRM := Lib.hid (show pairsM X m ++ (Y.take i).map (fun b => (⟨f0, b⟩ : S34)) = rowM X Y m by
          unfold rowM
          rw [List.take_of_length_le (by rw [HYL.out]; exact Nat.le_refl _), HF0.out]
          have hmp := HMP.out
          have hm := HM.out
          have : (rd_T34 ((List.finRange m).map (fun x => pairM X x.1)) ((m - 1 : Nat) : Int)) = pairM X (m - 1) := by
            unfold rd_T34
            rw [Int.toNat_natCast, List.getD_eq_getElem?_getD, List.getElem?_eq_getElem (by simp; omega)]
            simp
          rw [this])
        rw [HRM.out] at HR
        clear HL
        go_wp2
        refine ⟨by simp, .inl ⟨_, _, rfl, run_takeDeferred HD2.out, ?_⟩⟩
        refine ⟨_, results_tmp2 rfl _ _ _, ?_⟩
        exact ⟨v, rfl, Kd.R_lower HR.out.1 B4.out.size, B4.out.trans (HR.out.2.mono B4.out.size)⟩
  case stop =>
    rintro D c pre W _ _ h _
    exact h.elim
set_option maxRecDepth 100000 in
set_option maxHeartbeats 2000000 in
theorem hmtx_get_arg (s : ByteArray) (g m : Int) (w : World) (h : g < 1 ∨ 65535 < g ∨ m < 1 ∨ g < m) :
    Calls Try.prog 6 #[.string s, .int .i64 g, .int .i64 m] w fun e w' => ∃ v0_ : Value, e = .returned (.tuple #[v0_, .int .i64 1]) ∧ Kd.R k34 34 w' w.heap.size (fun _ => True) v0_ [] ∧ Below w.heap.size w w' := by
  by_cases h1 : g < 1
  · have d1 : decide (g < 1) = true := decide_eq_true h1
    clear h
    refine (callsIn_wide (n := 9)).1 (callsIn_of_wp_marks Try.func6 rfl trivial (wpIn_wide.2 ?_) rfl)
    simp only [Try.ntmps6, List.size_toArray, List.length_cons, List.length_nil, Nat.reduceAdd, Nat.reduceSub, Array.replicate_succ, Array.replicate_zero, List.push_toArray, List.append_toArray, List.nil_append, List.cons_append]
    go_wp2
    exact ⟨_, results_tmp2 rfl _ _ _, _, rfl, Kd.R_nil _ _ _ _ _, Below.refl _ _⟩
  have d1 : decide (g < 1) = false := decide_eq_false h1
  by_cases h2 : 65535 < g
  · have d2 : decide (65535 < g) = true := decide_eq_true h2
    clear h
    refine (callsIn_wide (n := 9)).1 (callsIn_of_wp_marks Try.func6 rfl trivial (wpIn_wide.2 ?_) rfl)
    simp only [Try.ntmps6, List.size_toArray, List.length_cons, List.length_nil, Nat.reduceAdd, Nat.reduceSub, Array.replicate_succ, Array.replicate_zero, List.push_toArray, List.append_toArray, List.nil_append, List.cons_append]
    go_wp2
    exact ⟨_, results_tmp2 rfl _ _ _, _, rfl, Kd.R_nil _ _ _ _ _, Below.refl _ _⟩
  have d2 : decide (65535 < g) = false := decide_eq_false h2
  by_cases h3 : m < 1
  · have d3 : decide (m < 1) = true := decide_eq_true h3
    clear h
    refine (callsIn_wide (n := 9)).1 (callsIn_of_wp_marks Try.func6 rfl trivial (wpIn_wide.2 ?_) rfl)
    simp only [Try.ntmps6, List.size_toArray, List.length_cons, List.length_nil, Nat.reduceAdd, Nat.reduceSub, Array.replicate_succ, Array.replicate_zero, List.push_toArray, List.append_toArray, List.nil_append, List.cons_append]
    go_wp2
    exact ⟨_, results_tmp2 rfl _ _ _, _, rfl, Kd.R_nil _ _ _ _ _, Below.refl _ _⟩
  have d3 : decide (m < 1) = false := decide_eq_false h3
  have d4 : decide (g < m) = true := decide_eq_true (by omega)
  clear h
  refine (callsIn_wide (n := 9)).1 (callsIn_of_wp_marks Try.func6 rfl trivial (wpIn_wide.2 ?_) rfl)
  simp only [Try.ntmps6, List.size_toArray, List.length_cons, List.length_nil, Nat.reduceAdd, Nat.reduceSub, Array.replicate_succ, Array.replicate_zero, List.push_toArray, List.append_toArray, List.nil_append, List.cons_append]
  go_wp2
  exact ⟨_, results_tmp2 rfl _ _ _, _, rfl, Kd.R_nil _ _ _ _ _, Below.refl _ _⟩
set_option maxRecDepth 100000 in
set_option maxHeartbeats 2000000 in
theorem hmtx_get_more (s : ByteArray) (g m : Int) (w : World) (h1 : ¬ g < 1) (h2 : ¬ 65535 < g) (h3 : ¬ m < 1) (h4 : ¬ g < m) (hs : (s.size : Int) < 4 * m + 2 * (g - m)) :
    Calls Try.prog 6 #[.string s, .int .i64 g, .int .i64 m] w fun e w' => ∃ v0_ : Value, e = .returned (.tuple #[v0_, .int .i64 4]) ∧ Kd.R k34 34 w' w.heap.size (fun _ => True) v0_ [] ∧ Below w.heap.size w w' := by
  have d1 : decide (g < 1) = false := decide_eq_false h1
  have d2 : decide (65535 < g) = false := decide_eq_false h2
  have d3 : decide (m < 1) = false := decide_eq_false h3
  have d4 : decide (g < m) = false := decide_eq_false h4
  obtain ⟨m4, hm4⟩ : ∃ m4, m4 = 4 * m := ⟨_, rfl⟩
  obtain ⟨gm, hgm⟩ : ∃ gm, gm = g - m := ⟨_, rfl⟩
  obtain ⟨gm2, hgm2⟩ : ∃ gm2, gm2 = 2 * gm := ⟨_, rfl⟩
  have w1_ : wrap64 (4 * m) = m4 := by unfold wrap64; omega
  have w2_ : wrap64 (g - m) = gm := by unfold wrap64; omega
  have w3_ : wrap64 (2 * gm) = gm2 := by unfold wrap64; omega
  have w4_ : wrap64 (m4 + gm2) = m4 + gm2 := by unfold wrap64; omega
  have d5 : decide ((s.size : Int) < m4 + gm2) = true := decide_eq_true (by omega)
  clear h1 h2 h3 h4 hs hm4 hgm hgm2
  refine (callsIn_wide (n := 9)).1 (callsIn_of_wp_marks Try.func6 rfl trivial (wpIn_wide.2 ?_) rfl)
  simp only [Try.ntmps6, List.size_toArray, List.length_cons, List.length_nil, Nat.reduceAdd, Nat.reduceSub, Array.replicate_succ, Array.replicate_zero, List.push_toArray, List.append_toArray, List.nil_append, List.cons_append]
  go_wp2
  exact ⟨_, results_tmp2 rfl _ _ _, _, rfl, Kd.R_nil _ _ _ _ _, Below.refl _ _⟩
theorem hmtx_Get.calls (a0 : ByteArray) (a1 : Int) (a2 : Int) (r1 : List S34) (r2 : Int) (w : World) (h : hmtx_Get.f a0 a1 a2 = some (r1, r2)) :
    Calls Try.prog 6 #[.string a0, .int .i64 a1, .int .i64 a2] w fun e w' => ∃ v0_ : Value, e = .returned (.tuple #[v0_, .int .i64 r2]) ∧ Kd.R k34 34 w' w.heap.size (fun _ => True) v0_ r1 ∧ Below w.heap.size w w' := by
  unfold hmtx_Get.f at h
  split at h
  · rename_i hb
    obtain ⟨rfl, rfl⟩ := Prod.mk.inj (Option.some.inj h)
    exact hmtx_get_arg a0 a1 a2 w hb
  · rename_i hb
    have h1 : ¬ a1 < 1 := fun e => hb (.inl e)
    have h2 : ¬ 65535 < a1 := fun e => hb (.inr (.inl e))
    have h3 : ¬ a2 < 1 := fun e => hb (.inr (.inr (.inl e)))
    have h4 : ¬ a1 < a2 := fun e => hb (.inr (.inr (.inr e)))
    split at h
    · rename_i hs
      obtain ⟨rfl, rfl⟩ := Prod.mk.inj (Option.some.inj h)
      exact hmtx_get_more a0 a1 a2 w h1 h2 h3 h4 hs
    · rename_i hs
      obtain ⟨rfl, rfl⟩ := Prod.mk.inj (Option.some.inj h)
      obtain ⟨g, rfl⟩ := Int.eq_ofNat_of_zero_le (show 0 ≤ a1 by omega)
      obtain ⟨m, rfl⟩ := Int.eq_ofNat_of_zero_le (show 0 ≤ a2 by omega)
      have e1 : ((g : Int) - (m : Int)).toNat = g - m := by omega
      have e2 : (4 * (m : Int)) = ((4 * m : Nat) : Int) := by omega
      have hs' : 4 * m + 2 * (g - m) ≤ a0.size := by omega
      obtain ⟨X, hX, hXl⟩ := getN_ok a0 0 (repN [2, -2] m) (areSizes_rep _ (by decide) m) (by rw [sumN_rep]; show 0 + 4 * m ≤ _; omega)
      obtain ⟨Y, hY, hYl⟩ := getN_ok a0 (4 * m) (repN [-2] (g - m)) (areSizes_rep _ (by decide) _) (by rw [sumN_rep]; show 4 * m + 2 * (g - m) ≤ _; omega)
      have hX' : getN a0 0 (repN [2, -2] m) = (X, 0) := hX
      rw [e1, e2, Int.toNat_natCast, hX', hY]
      exact hmtx_get_walk a0 g m w (by omega) (by omega) (by omega) hs' X Y hX' (by rw [hXl, repN_length]; rfl) hY (by rw [hYl, repN_length]; exact Nat.one_mul _)
end Go.Proofs.Ytjbhnohomhnhjaa.P
