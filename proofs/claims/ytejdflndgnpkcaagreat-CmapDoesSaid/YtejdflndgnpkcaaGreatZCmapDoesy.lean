/- Words, contracts and plain facts of the proof. Each says its own condition. -/
import Derived.Test.YtejdflndgnpkcaaGreatZCmapDoesr
import Derived.Test.YtejdflndgnpkcaaGreatZCmapDoese
import Derived.Test.YtejdflndgnpkcaaGreatZCmapDoesg
import Derived.Test.YtejdflndgnpkcaaGreatZCmapDoesh
set_option linter.unusedVariables false
set_option maxRecDepth 100000
set_option linter.unusedSimpArgs false
set_option maxHeartbeats 16000000
section
namespace Go.Proofs.YtejdflndgnpkcaaGreat.P
open Go.RowKit Go.Shelf PW PL PM
attribute [local go_sem] Oper.semAt_some
attribute [local go_sem] max2_int min2_int max_two min_two max_three min_three max_four min_four
theorem group_get_more (s : ByteArray) (w : World) (h : s.size < 16) :
  Calls Tryz.prog 46 #[.string s] w fun e w' => ∃ v0_ : Value, e = .returned (.tuple #[v0_, .int .i64 4]) ∧ Kd.R k61 61 w' w.heap.size (fun _ => True) v0_ [] ∧ Below w.heap.size w w' := by
 have HG := hI (show getN s 0 [2, 2, 4, 4, 4] = ([], 4) by rw [head_get, if_neg (by omega)]);clear h;refine (callsIn_wide (n := 9)).1 (callsIn_of_wp_marks Tryz.func46 rfl trivial (wpIn_wide.2 ?_) rfl);simp only [Tryz.ntmps46, List.size_toArray, List.length_cons, List.length_nil, Nat.reduceAdd, Nat.reduceSub, Array.replicate_succ, Array.replicate_zero, List.push_toArray, List.append_toArray, List.nil_append, List.cons_append];go_wp2_with fail
 have C1 := lit_C w [2, 2, 4, 4, 4] (by decide);refine (bin_Get.calls s 0 _ 5 [2, 2, 4, 4, 4] [] 4 _ C1 (Nat.le_refl _) (by unfold bin_Get.f; rw [if_pos (by decide), HG.out])).mono ?_;rintro e w1 ⟨v, rfl, hr, hb⟩;have B1 := hI ((below_alloc (Below.refl w.heap.size w) _).trans (hb.mono (by simp)));clear hr hb C1;go_wp2;exact ⟨_, results_tmp2 rfl _ _ _, _, rfl, Kd.R_nil _ _ _ _ _, B1.out⟩
theorem getG_of {s : ByteArray} {m : Nat} {st : Int} (h : 16 ≤ s.size) (hf : w2 s 0 = 12 ∨ w2 s 0 = 13) (hn : w4 s 12 = (m : Int)) (hm : m ≤ 65536) (hl : w4 s 4 = 16 + 12 * (m : Int)) (hs : 16 + 12 * m ≤ s.size) (hst : st = 13 - w2 s 0) : getG s = if isL (spansG s m st) = true then (spansG s m st, 0) else ([], 5) := by
 unfold getG;rw [if_neg (by omega), if_neg (by omega), if_neg (by omega), hl, hn, if_neg (by omega), if_neg (by omega), Int.toNat_natCast, ← hst]
theorem trips_told (s : ByteArray) (m : Nat) (st : Int) (X : List Int) (hX : X = (List.range (3 * m)).map (fun i => w4 s (16 + 4 * i))) : (List.finRange m).map (fun x => tripG X st x.1) = spansG s m st := by
 have hr : ∀ i, i < 3 * m → rd X ((i : Nat) : Int) = w4 s (16 + 4 * i) := fun i hi => by
  rw [hX]; unfold rd;rw [Int.toNat_natCast, List.getD_eq_getElem?_getD, List.getElem?_map, List.getElem?_range hi]; rfl
 apply List.ext_getElem
 · simp [spansG]
 intro i h1 h2;have hi : i < m := by simpa using h1
 simp only [List.getElem_map, List.getElem_finRange, spansG, List.getElem_range];unfold tripG;simp only [Fin.val_cast];rw [hr (3 * i) (by omega), hr (3 * i + 1) (by omega), hr (3 * i + 2) (by omega)];have e1 : 16 + 4 * (3 * i) = 16 + 12 * i := by omega
 have e2 : 16 + 4 * (3 * i + 1) = 20 + 12 * i := by omega
 have e3 : 16 + 4 * (3 * i + 2) = 24 + 12 * i := by omega
 rw [e1, e2, e3]
theorem get_begins (w4_ : World) (m kx gx F : Nat) (f : Int) (X : List Int) (w5 : World) (hgx : gx < w4_.heap.size) (hF : F < w4_.heap.size) (hcF : w4_.cell? ⟨F, 0, none⟩ = some (.int .i64 f)) (hcx : ∀ j, j < 3 * m → w4_.cell? ⟨gx, j, none⟩ = some (.int .i64 (rd X (j : Int))))
  (hw : w5 = ((w4_.alloc (.cells #[.slice none 0 0] 22)).alloc (.cells #[.slice (some ⟨gx, 0, none⟩) (3 * m) kx] 35)).alloc (.cells #[.int .i64 ((3 : Nat) : Int)] 3)) :
  RowS w4_ w4_.heap.size [w4_.heap.size + 1, w4_.heap.size + 1 + 1, gx, F] w5 w5 (.slice none 0 0) [] ∧ w5.cell? ⟨w4_.heap.size + 1, 0, none⟩ = some (.slice (some ⟨gx, 0, none⟩) (3 * m) kx) ∧ w5.cell? ⟨w4_.heap.size + 1 + 1, 0, none⟩ = some (.int .i64 ((3 : Nat) : Int)) ∧
   (∀ j, j < 3 * m → w5.cell? ⟨gx, j, none⟩ = some (.int .i64 (rd X (j : Int)))) ∧ w5.heap.size = w4_.heap.size + 3 ∧ w5.cell? ⟨F, 0, none⟩ = some (.int .i64 f) := by
 have hb : Below w4_.heap.size w4_ w5 := by
  rw [hw]; exact (((Below.refl _ w4_).alloc (Nat.le_refl _) _).alloc (by simp) _).alloc (by simp; omega) _
 have hz : w5.heap.size = w4_.heap.size + 3 := by rw [hw]; simp
 refine ⟨⟨?_, ?_, Kd.R_nil _ _ _ _ _, hb, Nat.le_refl _, KeepsB.refl _ _⟩, ?_, ?_, fun j hj => (hb.cell hgx).trans (hcx j hj), hz, (hb.cell hF).trans hcF⟩
 · rw [hw]; simp [go_sem]
 · rw [hw]; simp [go_sem]
 · rw [hw]; simp [go_sem]
 rw [hw]; simp [go_sem]
theorem get_final {w W W2 : World} {D : Nat} {ok : Nat → Prop} {v : Value} {xs : List S61} (hr : Kd.R k61 61 W w.heap.size ok v xs) (hB : Below w.heap.size w W) (hb : Below W.heap.size W W2) (hd : W.heap[D]? = some (.deferred (some []))) (hwD : w.heap.size ≤ D) :
  Kd.R k61 61 (W2.putObj D (.deferred none)) w.heap.size (fun _ => True) v xs ∧ Below w.heap.size w (W2.putObj D (.deferred none)) ∧ W2.heap[D]? = some (.deferred (some [])) := by
 have hd2 : W2.heap[D]? = some (.deferred (some [])) := (hb.block D (blk_lt hd)).trans hd;have hr2 := Kd.R_below hr hb;have hB2 := hB.trans (hb.mono hB.size);have hg := grownBy_putObj' W2 D (.deferred none);refine ⟨Kd.R_mono (Kd.R_grown (Kd.R_bound hr2) hg (fun k hk e => ?_)) (fun _ _ => trivial), hB2.grown hg hB2.size (fun k e => by cases e; exact hwD), hd2⟩;obtain ⟨_, _, _, q, _, cells, hc⟩ := hk;cases e
 rw [hd2] at hc;injection hc with hc
 cases hc
theorem span_bytes {n : Nat} (h : n ≤ 65536) : (n + 1) * 32 ≤ 140737488355328 := by omega
theorem getG_form {s : ByteArray} {f : Int} (h : 16 ≤ s.size) (hF : f = w2 s 0) (hf : ¬ (f = 12 ∨ f = 13)) : getG s = ([], 5) := by
 unfold getG;rw [if_neg (by omega), if_pos (by omega)]
theorem getG_long {s : ByteArray} {f n : Int} (h : 16 ≤ s.size) (hF : f = w2 s 0) (hN : n = w4 s 12) (hf : f = 12 ∨ f = 13) (hn : 65536 < n) : getG s = ([], 7) := by
 unfold getG;rw [if_neg (by omega), if_neg (by omega), if_pos (by omega)]
theorem getG_len {s : ByteArray} {f n ln : Int} (h : 16 ≤ s.size) (hF : f = w2 s 0) (hN : n = w4 s 12) (hL : ln = w4 s 4) (hf : f = 12 ∨ f = 13) (hn : ¬ 65536 < n) (hl : ¬ ln = 16 + 12 * n) : getG s = ([], 5) := by
 unfold getG;rw [if_neg (by omega), if_neg (by omega), if_neg (by omega), if_pos (by omega)]
theorem getG_short {s : ByteArray} {f n ln : Int} (h : 16 ≤ s.size) (hF : f = w2 s 0) (hN : n = w4 s 12) (hL : ln = w4 s 4) (hf : f = 12 ∨ f = 13) (hn : ¬ 65536 < n) (hl : ln = 16 + 12 * n) (hs : (s.size : Int) < ln) : getG s = ([], 4) := by
 unfold getG;rw [if_neg (by omega), if_neg (by omega), if_neg (by omega), if_neg (by omega), if_pos (by omega)]
theorem bne_none {f : Int} (h : ¬ (f = 12 ∨ f = 13)) : (f != 12) = true ∧ (f != 13) = true := by
 simp; omega
theorem group_get_bad (s : ByteArray) (w : World) (h : 16 ≤ s.size) (hform : ¬ (w2 s 0 = 12 ∨ w2 s 0 = 13)) (r : List S61 × Int) (hr : getG s = r) :
  Calls Tryz.prog 46 #[.string s] w fun e w' => ∃ v0_ : Value, e = .returned (.tuple #[v0_, .int .i64 r.2]) ∧ Kd.R k61 61 w' w.heap.size (fun _ => True) v0_ r.1 ∧ Below w.heap.size w w' := by
 have HG := hI (show getN s 0 [2, 2, 4, 4, 4] = (headG s, 0) by rw [head_get, if_pos h]);obtain ⟨f, hf⟩ : ∃ f, f = w2 s 0 := ⟨_, rfl⟩;obtain ⟨ln, hln⟩ : ∃ ln, ln = w4 s 4 := ⟨_, rfl⟩;obtain ⟨n, hn⟩ : ∃ n, n = w4 s 12 := ⟨_, rfl⟩;have hnb := w4_bd s 12;have hfb := w2_bd s 0;rw [← hn] at hnb;rw [← hf] at hfb;have HF := hI hf;have HFM := hI hform;clear hform;have HLN := hI hln;have HN := hI hn;have HNB := hI hnb;have HS := hI h;have HR := hI hr;have e1 : wrap64 (12 * n) = 12 * n := by unfold wrap64; omega
 have e2 : wrap64 (16 + 12 * n) = 16 + 12 * n := by unfold wrap64; omega
 have e3 : wrap64 (3 * n) = 3 * n := by unfold wrap64; omega
 have e4 : wrap64 (13 - f) = 13 - f := by unfold wrap64; omega
 clear hf hln hn hnb h hr hfb;refine (callsIn_wide (n := 9)).1 (callsIn_of_wp_marks Tryz.func46 rfl trivial (wpIn_wide.2 ?_) rfl);simp only [Tryz.ntmps46, List.size_toArray, List.length_cons, List.length_nil, Nat.reduceAdd, Nat.reduceSub, Array.replicate_succ, Array.replicate_zero, List.push_toArray, List.append_toArray, List.nil_append, List.cons_append];go_wp2_with fail
 have C1 := lit_C w [2, 2, 4, 4, 4] (by decide);refine (bin_Get.calls s 0 _ 5 [2, 2, 4, 4, 4] (headG s) 0 _ C1 (Nat.le_refl _) (by unfold bin_Get.f; rw [if_pos (by decide), HG.out])).mono ?_;rintro e w1 ⟨v, rfl, hr, hb⟩;have B1 := hI ((below_alloc (Below.refl w.heap.size w) _).trans (hb.mono (by simp)));obtain ⟨g0, k0, rfl, hg1, hg2, hk1, hk2, hcs⟩ := row_block hr (by simp [headG]);have hlen : (headG s).length = 5 := rfl;rw [hlen] at hk1 hcs ⊢;have x0 : w1.cell? ⟨g0, 0, none⟩ = some (.int .i64 f) := (hcs 0 (by decide)).trans (by rw [HF.out]; rfl);have x2 : w1.cell? ⟨g0, 2, none⟩ = some (.int .i64 ln) := (hcs 2 (by decide)).trans (by rw [HLN.out]; rfl);have x4 : w1.cell? ⟨g0, 4, none⟩ = some (.int .i64 n) := (hcs 4 (by decide)).trans (by rw [HN.out]; rfl);clear hr hb C1 hg1 hk2 hcs hlen;go_wp2_with fail
 refine wp_mono (Q := Exit.then ?_ (fun _ _ _ => False)) ?_ ?_;rotate_left 2
 ·
  intro e a w h;cases e with
  | normal => exact h
  | _ => exact (show False from h).elim
 refine bg_ 13 (fun u => u.cell? ⟨g0, 0, none⟩ = some (.int .i64 f) ∧ u.cell? ⟨g0, 2, none⟩ = some (.int .i64 ln) ∧ u.cell? ⟨g0, 4, none⟩ = some (.int .i64 n)) ⟨x0, x2, x4⟩ (fun hHeld => ?_);have hlg := World.block_lt_of_cell? _ _ x0;dsimp only at hlg
 clear x0 x2 x4;obtain ⟨u0, hu0⟩ : ∃ u0, u0 = w1.drew := ⟨_, rfl⟩;have HU0 := hI (show Below w1.heap.size w1 u0 by rw [hu0]; exact below_drew1 (Below.refl _ _));have HZ0 := hI (show u0.heap.size = w1.heap.size by rw [hu0]; rfl);have HLG := hI (show g0 < u0.heap.size by rw [hu0]; exact hlg);rw [← hu0] at hHeld ⊢;clear hu0 hlg;refine pS_ 0 20 ?_;refine pS_ 1 21 ?_;refine pS_ 3 23 ?_;refine pS_ 4 24 ?_;refine pS_ 6 26 ?_;refine pS_ 7 27 ?_;refine tS_ 2 22 hHeld ?_;refine tS_ 5 25 hHeld ?_;refine tS_ 8 28 hHeld ?_;refine oS_ 9 6 (fun K hK => ?_);refine vS_ ?_;refine hK.out _ _ ⟨cell_al _ hHeld.1, cell_al _ hHeld.2.1, cell_al _ hHeld.2.2⟩ (fun hHeld2 => ?_);clear hK K;refine nS_ ?_;refine oN_ 10 (fun K hK => ?_);refine skip_ (w1 := ?_) (by rfl) rfl ?_ ?_;rotate_left
 ·
  go_simp
  rfl
 obtain ⟨F, hF⟩ : ∃ F, F = u0.heap.size := ⟨_, rfl⟩;have hbW : Below u0.heap.size u0 (u0.alloc (.cells #[.int .i64 f] 3)) := (Below.refl _ u0).alloc (Nat.le_refl _) _;have hcW : (u0.alloc (.cells #[.int .i64 f] 3)).cell? ⟨u0.heap.size, 0, none⟩ = some (.int .i64 f) := by simp [go_sem]
 have hsW : u0.heap.size < (u0.alloc (.cells #[.int .i64 f] 3)).heap.size := by simp
 refine hK.out _ _ ⟨(hbW.cell HLG.out).trans hHeld.1, (hbW.cell HLG.out).trans hHeld.2.1, (hbW.cell HLG.out).trans hHeld.2.2⟩ (fun hHeld3 => ?_);clear hK K;refine pS_ 11 7 ?_;refine pS_ 12 8 ?_;refine dS_ ?_;obtain ⟨wf, hwf⟩ : ∃ wf, wf = u0.alloc (.cells #[.int .i64 f] 3) := ⟨_, rfl⟩;rw [← hwf] at hbW hcW hsW;have hb1f : Below w1.heap.size w1 wf := HU0.out.trans (hbW.mono (by rw [HZ0.out]; exact Nat.le_refl _));have BF := hI (B1.out.trans (hb1f.mono B1.out.size));have cF : wf.cell? ⟨F, 0, none⟩ = some (.int .i64 f) := by rw [hF]; exact hcW
 have HFL := hI (show F < wf.heap.size by rw [hF]; exact hsW);rw [← hwf, ← hF];clear hwf hbW hcW hsW hb1f hF hHeld hHeld2 hHeld3 hg2 hk1;have hff : ¬ (f = 12 ∨ f = 13) := by rw [HF.out]; exact HFM.out
 have a1 := (bne_none hff).1;have a2 := (bne_none hff).2;have HRE := hI (HR.out.symm.trans (getG_form HS.out HF.out hff));clear hff;go_wp2;rw [HRE.out];exact ⟨_, results_tmp2 rfl _ _ _, _, rfl, Kd.R_nil _ _ _ _ _, BF.out⟩
theorem group_get_fmt (s : ByteArray) (w : World) (h : 16 ≤ s.size) (hform : w2 s 0 = 12 ∨ w2 s 0 = 13) (r : List S61 × Int) (hr : getG s = r) :
  Calls Tryz.prog 46 #[.string s] w fun e w' => ∃ v0_ : Value, e = .returned (.tuple #[v0_, .int .i64 r.2]) ∧ Kd.R k61 61 w' w.heap.size (fun _ => True) v0_ r.1 ∧ Below w.heap.size w w' := by
 rcases hform with hform | hform
 all_goals
  have HG := hI (show getN s 0 [2, 2, 4, 4, 4] = (headG s, 0) by rw [head_get, if_pos h]);obtain ⟨f, hf⟩ : ∃ f, f = w2 s 0 := ⟨_, rfl⟩;obtain ⟨ln, hln⟩ : ∃ ln, ln = w4 s 4 := ⟨_, rfl⟩;obtain ⟨n, hn⟩ : ∃ n, n = w4 s 12 := ⟨_, rfl⟩;have hnb := w4_bd s 12;have hfb := w2_bd s 0;rw [← hn] at hnb;rw [← hf] at hfb;have HF := hI hf;have HFM := hI hform;clear hform;have HLN := hI hln;have HN := hI hn;have HNB := hI hnb;have HS := hI h;have HR := hI hr;have e1 : wrap64 (12 * n) = 12 * n := by unfold wrap64; omega
  have e2 : wrap64 (16 + 12 * n) = 16 + 12 * n := by unfold wrap64; omega
  have e3 : wrap64 (3 * n) = 3 * n := by unfold wrap64; omega
  have e4 : wrap64 (13 - f) = 13 - f := by unfold wrap64; omega
  clear hf hln hn hnb h hr hfb;refine (callsIn_wide (n := 9)).1 (callsIn_of_wp_marks Tryz.func46 rfl trivial (wpIn_wide.2 ?_) rfl);simp only [Tryz.ntmps46, List.size_toArray, List.length_cons, List.length_nil, Nat.reduceAdd, Nat.reduceSub, Array.replicate_succ, Array.replicate_zero, List.push_toArray, List.append_toArray, List.nil_append, List.cons_append];go_wp2_with fail
  have C1 := lit_C w [2, 2, 4, 4, 4] (by decide);refine (bin_Get.calls s 0 _ 5 [2, 2, 4, 4, 4] (headG s) 0 _ C1 (Nat.le_refl _) (by unfold bin_Get.f; rw [if_pos (by decide), HG.out])).mono ?_;rintro e w1 ⟨v, rfl, hr, hb⟩;have B1 := hI ((below_alloc (Below.refl w.heap.size w) _).trans (hb.mono (by simp)));obtain ⟨g0, k0, rfl, hg1, hg2, hk1, hk2, hcs⟩ := row_block hr (by simp [headG]);have hlen : (headG s).length = 5 := rfl;rw [hlen] at hk1 hcs ⊢;have x0 : w1.cell? ⟨g0, 0, none⟩ = some (.int .i64 f) := (hcs 0 (by decide)).trans (by rw [HF.out]; rfl);have x2 : w1.cell? ⟨g0, 2, none⟩ = some (.int .i64 ln) := (hcs 2 (by decide)).trans (by rw [HLN.out]; rfl);have x4 : w1.cell? ⟨g0, 4, none⟩ = some (.int .i64 n) := (hcs 4 (by decide)).trans (by rw [HN.out]; rfl);clear hr hb C1 hg1 hk2 hcs hlen;go_wp2_with fail
  refine wp_mono (Q := Exit.then ?_ (fun _ _ _ => False)) ?_ ?_;rotate_left 2
  ·
   intro e a w h;cases e with
   | normal => exact h
   | _ => exact (show False from h).elim
  refine bg_ 13 (fun u => u.cell? ⟨g0, 0, none⟩ = some (.int .i64 f) ∧ u.cell? ⟨g0, 2, none⟩ = some (.int .i64 ln) ∧ u.cell? ⟨g0, 4, none⟩ = some (.int .i64 n)) ⟨x0, x2, x4⟩ (fun hHeld => ?_);have hlg := World.block_lt_of_cell? _ _ x0;dsimp only at hlg
  clear x0 x2 x4;obtain ⟨u0, hu0⟩ : ∃ u0, u0 = w1.drew := ⟨_, rfl⟩;have HU0 := hI (show Below w1.heap.size w1 u0 by rw [hu0]; exact below_drew1 (Below.refl _ _));have HZ0 := hI (show u0.heap.size = w1.heap.size by rw [hu0]; rfl);have HLG := hI (show g0 < u0.heap.size by rw [hu0]; exact hlg);rw [← hu0] at hHeld ⊢;clear hu0 hlg;refine pS_ 0 20 ?_;refine pS_ 1 21 ?_;refine pS_ 3 23 ?_;refine pS_ 4 24 ?_;refine pS_ 6 26 ?_;refine pS_ 7 27 ?_;refine tS_ 2 22 hHeld ?_;refine tS_ 5 25 hHeld ?_;refine tS_ 8 28 hHeld ?_;refine oS_ 9 6 (fun K hK => ?_);refine vS_ ?_;refine hK.out _ _ ⟨cell_al _ hHeld.1, cell_al _ hHeld.2.1, cell_al _ hHeld.2.2⟩ (fun hHeld2 => ?_);clear hK K;refine nS_ ?_;refine oN_ 10 (fun K hK => ?_);refine skip_ (w1 := ?_) (by rfl) rfl ?_ ?_;rotate_left
  ·
   go_simp
   rfl
  obtain ⟨F, hF⟩ : ∃ F, F = u0.heap.size := ⟨_, rfl⟩;have hbW : Below u0.heap.size u0 (u0.alloc (.cells #[.int .i64 f] 3)) := (Below.refl _ u0).alloc (Nat.le_refl _) _;have hcW : (u0.alloc (.cells #[.int .i64 f] 3)).cell? ⟨u0.heap.size, 0, none⟩ = some (.int .i64 f) := by simp [go_sem]
  have hsW : u0.heap.size < (u0.alloc (.cells #[.int .i64 f] 3)).heap.size := by simp
  refine hK.out _ _ ⟨(hbW.cell HLG.out).trans hHeld.1, (hbW.cell HLG.out).trans hHeld.2.1, (hbW.cell HLG.out).trans hHeld.2.2⟩ (fun hHeld3 => ?_);clear hK K;refine pS_ 11 7 ?_;refine pS_ 12 8 ?_;refine dS_ ?_;obtain ⟨wf, hwf⟩ : ∃ wf, wf = u0.alloc (.cells #[.int .i64 f] 3) := ⟨_, rfl⟩;rw [← hwf] at hbW hcW hsW;have hb1f : Below w1.heap.size w1 wf := HU0.out.trans (hbW.mono (by rw [HZ0.out]; exact Nat.le_refl _));have BF := hI (B1.out.trans (hb1f.mono B1.out.size));have cF : wf.cell? ⟨F, 0, none⟩ = some (.int .i64 f) := by rw [hF]; exact hcW
  have HFL := hI (show F < wf.heap.size by rw [hF]; exact hsW);rw [← hwf, ← hF];clear hwf hbW hcW hsW hb1f hF hHeld hHeld2 hHeld3 hg2 hk1;have hff : f = 12 ∨ f = 13 := by rw [HF.out, HFM.out]; decide
  have HFF := hI hff;try have a1 : (f != 12) = true := (by rw [HF.out, HFM.out]; rfl)
  try have a2 : (f != 12) = false := (by rw [HF.out, HFM.out]; rfl)
  try have a3 : (f != 13) = false := (by rw [HF.out, HFM.out]; rfl)
  clear hff;by_cases hn2 : 65536 < n
  ·
   have b1 : decide ((65536 : Int) < n) = true := decide_eq_true hn2;have HRE := hI (HR.out.symm.trans (getG_long HS.out HF.out HN.out HFF.out hn2));clear hn2;go_wp2;rw [HRE.out];exact ⟨_, results_tmp2 rfl _ _ _, _, rfl, Kd.R_nil _ _ _ _ _, BF.out⟩
  have b1 : decide ((65536 : Int) < n) = false := decide_eq_false hn2;by_cases hl2 : ln = 16 + 12 * n
  case neg =>
   have b2 : (ln != 16 + 12 * n) = true := by simp; omega
   have HRE := hI (HR.out.symm.trans (getG_len HS.out HF.out HN.out HLN.out HFF.out hn2 hl2));clear hn2 hl2;go_wp2;rw [HRE.out];exact ⟨_, results_tmp2 rfl _ _ _, _, rfl, Kd.R_nil _ _ _ _ _, BF.out⟩
  case pos =>
   have b2 : (ln != 16 + 12 * n) = false := by simp; omega
   by_cases hs2 : (s.size : Int) < ln
   ·
    have b3 : decide ((s.size : Int) < ln) = true := decide_eq_true hs2;have HRE := hI (HR.out.symm.trans (getG_short HS.out HF.out HN.out HLN.out HFF.out hn2 hl2 hs2));clear hn2 hl2 hs2;go_wp2;rw [HRE.out];exact ⟨_, results_tmp2 rfl _ _ _, _, rfl, Kd.R_nil _ _ _ _ _, BF.out⟩
   have b3 : decide ((s.size : Int) < ln) = false := decide_eq_false hs2;obtain ⟨m, hm⟩ := Int.eq_ofNat_of_zero_le HNB.out.1;have HM := hI (show m ≤ 65536 ∧ 16 + 12 * m ≤ s.size by omega)
   have hres : (if isL (spansG s m (13 - f)) = true then (spansG s m (13 - f), 0) else ([], 5)) = r := by
    rw [← HR.out, getG_of (m := m) (st := 13 - f) HS.out (by rw [← HF.out]; exact HFF.out) (by rw [← HN.out, hm]) HM.out.1 (by rw [← HLN.out, hl2, hm]) HM.out.2 (by rw [HF.out])]
   have HRES := hI hres;obtain ⟨st, hst⟩ : ∃ st, st = 13 - f := ⟨_, rfl⟩;rw [← hst] at HRES;replace e4 := e4.trans hst.symm;have hm3 : wrap64 (3 * n) = ((3 * m : Nat) : Int) := by rw [e3]; omega
   obtain ⟨m3, hmm⟩ : ∃ m3, m3 = 3 * m := ⟨_, rfl⟩;rw [← hmm] at hm3;have HM3 := hI hmm;clear hn2 hl2 hs2 hres hm hst e3 hmm HR HN HLN HNB;go_wp2_with fail
   have C1 := lit_C wf [4] (by decide);refine (slices_Repeat.calls _ 1 [4] (m3 : Int) (repN [4] m3) _ C1 (by decide) (by unfold slices_Repeat.f; rw [if_pos (by have := HM.out; have := HM3.out; refine ⟨by omega, by omega, by decide, ?_⟩; show 1 * (m3 : Int).toNat ≤ _; omega), Int.toNat_natCast])).mono ?_;rintro x w2_ ⟨v, rfl, hr, hb⟩;obtain ⟨A2, k2, rfl⟩ := Kd.R_slice hr;obtain ⟨_, _, e0, hk2, C2⟩ := Kd.R_reads hr;injection e0 with e5 e6 e7
   subst e5;subst e7;have hl1 : (repN [4] m3).length = m3 := by rw [repN_length]; exact Nat.one_mul _
   have hb2 : Below wf.heap.size wf w2_ := (below_alloc (Below.refl wf.heap.size wf) _).trans (hb.mono (by simp));have B2 := hI (BF.out.trans (hb2.mono BF.out.size));have cF2 := (hb2.cell (p := ⟨F, 0, none⟩) HFL.out).trans cF;have HFL2 := hI (Nat.lt_of_lt_of_le HFL.out hb2.size);have HC2 := hI C2;have HK2 := hI hk2;clear hr hb C1 C2 hk2 e6 hb2 cF;go_wp2_with fail
   have hg := get_rep s (s := 4) (by decide) 16 m3;have ha4 : (4 : Int).natAbs = 4 := rfl;rw [ha4, if_pos (by have := HM.out; have := HM3.out; omega)] at hg;obtain ⟨X, hX⟩ : ∃ X, X = (List.range m3).map (fun i => w4 s (16 + 4 * i)) := ⟨_, rfl⟩;have hg' : getN s 16 (repN [4] m3) = (X, 0) := by rw [hX]; exact hg
   have HXX := hI hX;have HXL := hI (show X.length = m3 by rw [hX]; simp);have hc1 := bin_Get.calls s 16 A2 k2 (repN [4] m3) X 0 w2_ HC2.out HK2.out (by unfold bin_Get.f; rw [if_pos (by rw [hl1]; have := HM.out; have := HM3.out; omega), hg']);rw [hl1] at hc1;refine hc1.mono ?_;clear hc1 hg hg' hX hl1 ha4;rintro x w3_ ⟨v, rfl, hr, hb⟩;have B3 := hI (B2.out.trans (hb.mono B2.out.size));have cF3 := (hb.cell (p := ⟨F, 0, none⟩) HFL2.out).trans cF2;have HFL3 := hI (Nat.lt_of_lt_of_le HFL2.out hb.size);clear cF2;by_cases hm0 : m = 0
   ·
    obtain ⟨A3, k3, rfl⟩ := Kd.R_slice hr;have hx0 : X.length = 0 := by rw [HXL.out, HM3.out, hm0]
    rw [hx0];have HM0 := hI hm0;clear hr hb HC2 HK2 hx0 hm0;go_wp2_with fail
    have hch := chunk_calls A3 0 k3 3 (by decide) (by decide) (w3_.alloc (.cells #[.slice none 0 0] 22));refine hch.mono ?_;clear hch;rintro x w5 ⟨rfl, hw5⟩;have hb5 : Below w3_.heap.size w3_ w5 := by rw [hw5]; exact (((Below.refl _ w3_).alloc (Nat.le_refl _) _).alloc (by simp) _).alloc (by simp; omega) _
    have hz5 : w5.heap.size = w3_.heap.size + 3 := by rw [hw5]; simp
    have c5 : w5.cell? ⟨w3_.heap.size + 1, 0, none⟩ = some (.slice A3 0 k3) := by rw [hw5]; simp [go_sem]
    have c6 : w5.cell? ⟨w3_.heap.size, 0, none⟩ = some (.slice none 0 0) := by rw [hw5]; simp [go_sem]
    have hs4 : (w3_.alloc (.cells #[.slice none 0 0] 22)).heap.size = w3_.heap.size + 1 := by simp
    simp only [hs4];have HB5 := hI hb5;have HZ5 := hI hz5;have HC5 := hI c5;have HC6 := hI c6;clear hb5 hz5 c5 c6 hs4 hw5;go_wp2_with fail
    refine (wpIn_wide (n := 9)).1 ?_
    refine wpIn_rangeFunc_ownG (F := Fence.wide) (n := 9) rfl (by decide) (gf := 44) (lb := #[.pointer (some ⟨w3_.heap.size + 1, 0, none⟩), .pointer (some ⟨w3_.heap.size + 1 + 1, 0, none⟩)]) rfl trivial (enters_of Tryz.func44 (by kernel_rfl) rfl)
     (chunk0_stops 8 (w3_.heap.size + 1) (w3_.heap.size + 1 + 1) A3 k3 [w3_.heap.size] w5 (by have := HZ5.out; omega) HC5.out (fun _ => #[.slice none 0 0]))
     (fun h k => h.trans k) (keepsB_b (fun k hk => by have := HZ5.out; simp at hk; omega)) (Below.refl _ _) (fun _ => rfl)
     (fun pre W => Below w.heap.size w W ∧ KeepsB [w3_.heap.size] w5 W)
     (fun _ _ _ => False) ?_ (fun _ _ _ _ _ hs _ _ => hs) ⟨B3.out.trans (HB5.out.mono B3.out.size), KeepsB.refl _ _⟩ (fun x => x.elim0) ?_ ?_ ?_ ?_
    ·
     intro s_ A_ U row hv hg hr;refine ⟨hv.1.grown hg hv.1.size (fun k e => by have := (hr k e).1; have := HZ5.out; have := B3.out.size; omega), fun k hk => ?_⟩;have hk' : k = w3_.heap.size := by simpa using hk
     subst hk'
     have hsz : w3_.heap.size < A_.heap.size := by
      have := hv.2 w3_.heap.size (by simp);have hlt : w3_.heap.size < w5.heap.size := by have := HZ5.out; omega
      rw [Array.getElem?_eq_getElem hlt] at this;exact (Array.getElem?_eq_some_iff.1 this).1
     exact (hg.block _ hsz (fun e => by have := (hr _ e.symm).1; have := HZ5.out; omega)).trans (hv.2 _ (by simp))
    ·
     intro l x W K hK;exact x.elim0
    ·
     rintro l pre x W hv hlt;exact x.elim0
    ·
     rintro D ys W hD rfl hv hdef;have cB := (hv.2.cell (p := ⟨w3_.heap.size, 0, none⟩) (by simp)).trans HC6.out;have HD := hI hD;have HDEF := hI hdef;have HV := hI hv.1;have hIs := chart_Is.calls none 0 [] true W (Kd.C_nil _ _) (Nat.le_refl _) rfl;clear hD hdef hv;go_wp2_with fail
     refine hIs.mono ?_;clear hIs;rintro x W2 ⟨rfl, hb⟩;have cB2 := kM hb cB;obtain ⟨f1, f2, f3⟩ := get_final (ok := fun _ => True) (v := .slice none 0 0) (xs := []) (Kd.R_nil _ _ _ _ _) HV.out hb HDEF.out (by have := HD.out; have := HZ5.out; have := B3.out.size; omega);have HF1 := hI f1;have HF2 := hI f2;have HF3 := hI f3
     have hres : r = ([], 0) := by
      rw [← HRES.out, HM0.out];rfl
     have HRE := hI hres;clear hb cB f1 f2 f3 hres;go_wp2;refine ⟨by simp, .inl ⟨_, _, rfl, run_takeDeferred HF3.out, ?_⟩⟩;refine ⟨_, results_tmp2 rfl _ _ _, ?_⟩;rw [HRE.out];exact ⟨_, rfl, HF1.out, HF2.out⟩
    ·
     rintro D c pre W _ _ h _;exact h.elim
   obtain ⟨gx, kx, rfl, hgx1, hgx2, hkx1, hkx2, hcx⟩ := row_block hr (by rw [HXL.out, HM3.out]; omega);rw [HXL.out, HM3.out] at hkx1 hcx;rw [HXL.out, HM3.out];have HM1 := hI (show 1 ≤ m by omega);have HGX := hI (show gx < w3_.heap.size ∧ 3 * m ≤ kx ∧ kx ≤ maxLen from ⟨hgx2, hkx1, hkx2⟩);have HCX := hI hcx;have HCF := hI cF3;clear hr hb hgx1 hgx2 hkx1 hkx2 hcx HC2 HK2 hm0 cF3;go_wp2_with fail
   have hch := chunk_calls (some ⟨gx, 0, none⟩) (3 * m) kx 3 (by decide) (by decide) (w3_.alloc (.cells #[.slice none 0 0] 22));refine hch.mono ?_;clear hch;rintro x w5 ⟨rfl, hw5⟩;obtain ⟨P5, Q5, R5, S5, T5, U5⟩ := get_begins w3_ m kx gx F f X w5 HGX.out.1 HFL3.out HCF.out HCX.out hw5;have HP5 := hI P5;have HQ5 := hI Q5;have HR5 := hI R5;have HS5 := hI S5;have HT5 := hI T5;have HU5 := hI U5;have hs4 : (w3_.alloc (.cells #[.slice none 0 0] 22)).heap.size = w3_.heap.size + 1 := by simp
   simp only [hs4];have HWB := hI (Nat.le_refl w3_.heap.size);have HB3 := hI (show w3_.heap.size < w5.heap.size by rw [T5]; omega);have HKS := hI (show ∀ k ∈ [w3_.heap.size + 1, w3_.heap.size + 1 + 1, gx, F], k < w5.heap.size from fun k hk => by have := HGX.out.1; have := HFL3.out; rw [T5]; simp at hk; omega);have HNK := hI (show w3_.heap.size ∉ [w3_.heap.size + 1, w3_.heap.size + 1 + 1, gx, F] from fun hk => by have := HGX.out.1; have := HFL3.out; simp at hk; omega);clear P5 Q5 R5 S5 T5 U5 hw5 hs4;go_wp2_with fail
   refine (wpIn_wide (n := 9)).1 ?_
   refine wpIn_rangeFunc_ownG (F := Fence.wide) (n := 9) rfl (by decide) (gf := 44) (lb := #[.pointer (some ⟨w3_.heap.size + 1, 0, none⟩), .pointer (some ⟨w3_.heap.size + 1 + 1, 0, none⟩)]) rfl trivial (enters_of Tryz.func44 (by kernel_rfl) rfl)
    (chunk_stops 8 (w3_.heap.size + 1) (w3_.heap.size + 1 + 1) gx 3 m (3 * m) kx [w3_.heap.size + 1, w3_.heap.size + 1 + 1, gx, F] w5 rfl (by decide) HM1.out (by have := HM.out; omega) HGX.out.2.1 HGX.out.2.2 (by simp) (by simp) (by have := HT5.out; omega) (by have := HT5.out; omega) HQ5.out HR5.out)
    (fun h k => h.trans k) (keepsB_b (fun k hk => by have := HT5.out; have := HGX.out.1; have := HFL3.out; simp at hk; omega)) (Below.refl _ _) (fun _ => rfl)
    (fun pre W => ∃ v, RowS w3_ w3_.heap.size [w3_.heap.size + 1, w3_.heap.size + 1 + 1, gx, F] w5 W v (pre.map (fun x => tripG X st x.1)))
    (fun _ _ _ => False) ?_ (fun _ _ _ _ _ hs _ _ => hs) ⟨_, HP5.out⟩ ?_ ?_ ?_ ?_ ?_
   · exact fun s A U row ⟨v, hv⟩ hg hr => ⟨v, hv.kept HWB.out HB3.out HKS.out hg hr⟩
   rotate_left
   ·
    intro l x W K hK;gi_wp2
    exact hK
   ·
    rintro l pre x W ⟨v, hv⟩ hlt;have hx := x.2;have ca := (hv.hK.cell (p := ⟨gx, 3 * x.1, none⟩) (by simp)).trans (HS5.out (3 * x.1) (by omega));have cb := (hv.hK.cell (p := ⟨gx, 3 * x.1 + 1, none⟩) (by simp)).trans (HS5.out (3 * x.1 + 1) (by omega));have cc := (hv.hK.cell (p := ⟨gx, 3 * x.1 + 2, none⟩) (by simp)).trans (HS5.out (3 * x.1 + 2) (by omega));have cd := (hv.hK.cell (p := ⟨F, 0, none⟩) (by simp)).trans HU5.out;obtain ⟨fa, hfa⟩ : ∃ fa, fa = rd X ((3 * x.1 : Nat) : Int) := ⟨_, rfl⟩;obtain ⟨fb, hfb⟩ : ∃ fb, fb = rd X ((3 * x.1 + 1 : Nat) : Int) := ⟨_, rfl⟩;obtain ⟨fc, hfc⟩ : ∃ fc, fc = rd X ((3 * x.1 + 2 : Nat) : Int) := ⟨_, rfl⟩;rw [← hfa] at ca;rw [← hfb] at cb;rw [← hfc] at cc;have HPM := hI (show tripG X st x.1 = ⟨fa, fb, fc, st⟩ by rw [hfa, hfb, hfc]; rfl);have HV := hI (RowS.kept hv (row := none) HWB.out HB3.out HKS.out (U := W.drew) ⟨rfl, rfl, rfl, Nat.le_refl _, fun _ _ _ => rfl⟩ (fun r e => by cases e));have HV0 := hI hv;have HPL := hI hlt;have HX2 := hI hx;clear hv hfa hfb hfc hlt hx;gi_wp2_with fail
    refine start_in (m := 16) (S := fun u => u.cell? ⟨w3_.heap.size, 0, none⟩ = some v ∧ u.cell? ⟨gx, 3 * x.1, none⟩ = some (.int .i64 fa) ∧ u.cell? ⟨gx, 3 * x.1 + 1, none⟩ = some (.int .i64 fb) ∧ u.cell? ⟨gx, 3 * x.1 + 2, none⟩ = some (.int .i64 fc) ∧ u.cell? ⟨F, 0, none⟩ = some (.int .i64 f)) (ds := [14, 15]) #[false, false, false, false, false, false, false, false, false, false, false, false, false, false, false, false] (by kernel_rfl) rfl rfl (by kernel_rfl) (by rintro ⟨_, _, h⟩; exact h) ⟨HV.out.c, ca, cb, cc, cd⟩ (fun hHeld => ?_);clear ca cb cc cd;obtain ⟨u0, hu0⟩ : ∃ u0, u0 = W.drew := ⟨_, rfl⟩;have HG0 := hI (show W.grownBy u0 none from by rw [hu0]; exact ⟨rfl, rfl, rfl, Nat.le_refl _, fun _ _ _ => rfl⟩);rw [← hu0] at HV hHeld ⊢;clear hu0;refine pS_ 1 66 ?_;refine pS_ 2 67 ?_;refine pS_ 4 69 ?_;refine pS_ 5 70 ?_;refine pS_ 7 72 ?_;refine pS_ 8 73 ?_;refine tS_ 0 65 hHeld ?_;refine tS_ 3 68 hHeld ?_;refine tS_ 6 71 hHeld ?_;refine tS_ 9 74 hHeld ?_;refine tS_ 10 75 hHeld ?_;refine pS_ 11 76 ?_;refine pS_ 12 77 ?_;refine oS_ 13 78 (fun K hK => ?_);refine vS_ ?_;refine hK.out _ _ ⟨(HV.out.kept (row := none) HWB.out HB3.out HKS.out (World.grownBy_alloc u0 _ none) (fun r e => by cases e)).c, (cell_al _ hHeld.2.1), (cell_al _ hHeld.2.2.1), (cell_al _ hHeld.2.2.2.1), (cell_al _ hHeld.2.2.2.2)⟩ (fun hHeld2 => ?_);clear hK K;refine nS_ ?_;refine lS_ 14 79 (fun K hK => ?_);refine Kd.R_append_step k61 (w0 := w3_) w3_.heap.size (by rfl) (.tmp 65) (.tmp 78) 22 61 (.agg #[(.int .i64 0), (.int .i64 0), (.int .i64 0), (.int .i64 0)]) 32 rfl Tryz.underlying22 info61 rfl (by decide) (by decide) v (pre.map (fun x => tripG X st x.1)) ⟨fa, fb, fc, st⟩ [.int .i64 fa, .int .i64 fb, .int .i64 fc, .int .i64 st] (fun k => w5.heap.size ≤ k) (fun _ => False) rfl rfl (by exact k61_mkM _ _ _ ⟨fa, fb, fc, st⟩) (fun _ hk => hk.elim) (by exact (fun k hk => Nat.le_trans HV.out.hS hk)) (by exact HV.out.r) (by exact HV.out.hB) (by exact HV.out.hB.size) (by exact span_bytes (by have := HPL.out; have := HM.out; rw [List.length_map]; omega)) ?_;intro v1 u2 ho hb hg hat;obtain ⟨A1, k1, rfl⟩ := Kd.R_slice ho;rw [← HPM.out] at ho;obtain ⟨c1, z1, G1, G2, G3⟩ := HV.out.grew HWB.out HB3.out HKS.out HNK.out ho hb hg;have HG1 := hI G1;have HG2 := hI (show KeepsB [w3_.heap.size + 1, w3_.heap.size + 1 + 1, gx, F] W _ from fun k hk => (G2 k hk).trans (HG0.out.block k (Nat.lt_of_lt_of_le (HKS.out k hk) HV0.out.hS) (by simp)));have HG3 := hI (show KeepsFrom w5.heap.size W _ from RowS.keepsFrom HB3.out (fun k o hk ho hn => G3 k o ((HG0.out.block k (Array.getElem?_eq_some_iff.1 hk).1 (by simp)).trans hk) ho hn) (Nat.le_trans HG0.out.size (by have := hg.size; simpa using this)));clear ho hb hg hat G1 G2 G3;refine hK.out _ _ ?_;clear hK K;refine nS_ ?_;refine lN_ 15 (fun K hK => ?_);refine skip_ (w1 := ?_) (by rfl) rfl ?_ ?_;rotate_left
    ·
     go_simp
     rfl
    refine hK.out _ _ ?_;clear hK K;refine dS_ ?_;have eL : (pre.map (fun x => tripG X st x.1) ++ [tripG X st x.1]).length = pre.length + 1 := by simp
    have h1 := HG1.out;have h2 := HG2.out;have h3 := HG3.out;rw [eL] at h1 h2 h3;exact ⟨h3, h2, _, by rw [List.map_append]; exact h1⟩
   ·
    rintro D ys W hD rfl ⟨v, hv⟩ hdef;have htr := trips_told s m st X (by rw [HXX.out, HM3.out]);rw [htr] at hv;obtain ⟨A7, k7, hA7⟩ := Kd.R_slice hv.r;have hlm : (spansG s m st).length = m := by simp [spansG]
    rw [hlm] at hA7;subst hA7;obtain ⟨_, _, e0, hk7, C7⟩ := Kd.R_reads hv.r;injection e0 with e5 e6 e7
    subst e5;subst e7;rw [hlm] at C7 hk7;have cB := hv.c;have HV := hI hv;have HD := hI hD;have HDEF := hI hdef;have hIs := chart_Is.calls A7 k7 (spansG s m st) (isL (spansG s m st)) W (by rw [hlm]; exact C7) (by rw [hlm]; exact hk7) rfl;rw [hlm] at hIs;obtain ⟨b, hb0⟩ : ∃ b, b = isL (spansG s m st) := ⟨_, rfl⟩;rw [← hb0] at hIs HRES;clear hD hdef hv htr C7 hk7 hlm e6 hb0;go_wp2_with fail
    refine hIs.mono ?_;clear hIs;rintro x W2 ⟨rfl, hb⟩;have cB2 := kM hb cB;have HVB := hI (B3.out.trans (HV.out.hB.mono B3.out.size));obtain ⟨f1, f2, f3⟩ := get_final (Kd.R_lower HV.out.r B3.out.size) HVB.out hb HDEF.out (by have := HD.out; have := HT5.out; have := B3.out.size; omega);have HF1 := hI f1;have HF2 := hI f2;have HF3 := hI f3;clear hb cB f1 f2 f3;cases b with
    | true =>
     rw [if_pos rfl] at HRES;go_wp2;refine ⟨by simp, .inl ⟨_, _, rfl, run_takeDeferred HF3.out, ?_⟩⟩;refine ⟨_, results_tmp2 rfl _ _ _, ?_⟩;rw [← HRES.out];exact ⟨_, rfl, HF1.out, HF2.out⟩
    | false =>
     rw [if_neg Bool.false_ne_true] at HRES;go_wp2;refine ⟨by simp, .inl ⟨_, _, rfl, run_takeDeferred HF3.out, ?_⟩⟩;refine ⟨_, results_tmp2 rfl _ _ _, ?_⟩;rw [← HRES.out];exact ⟨_, rfl, Kd.R_nil _ _ _ _ _, HF2.out⟩
   ·
    rintro D c pre W _ _ h _;exact h.elim
def group_Get.f (a0 : ByteArray) : Option (List S61 × Int) := some (getG a0)
theorem group_Get.calls (a0 : ByteArray) (r1 : List S61) (r2 : Int) (w : World) (h : group_Get.f a0 = some (r1, r2)) :
  Calls Tryz.prog 46 #[.string a0] w fun e w' => ∃ v0_ : Value, e = .returned (.tuple #[v0_, .int .i64 r2]) ∧ Kd.R k61 61 w' w.heap.size (fun _ => True) v0_ r1 ∧ Below w.heap.size w w' := by
 have hr := Option.some.inj h;by_cases hs : a0.size < 16
 ·
  unfold getG at hr;rw [if_pos hs] at hr;obtain ⟨rfl, rfl⟩ := Prod.mk.inj hr;exact group_get_more a0 w hs
 by_cases hf : w2 a0 0 = 12 ∨ w2 a0 0 = 13
 · exact group_get_fmt a0 w (by omega) hf (r1, r2) hr
 exact group_get_bad a0 w (by omega) hf (r1, r2) hr
end Go.Proofs.YtejdflndgnpkcaaGreat.P
end
section
namespace Go.Proofs.YtejdflndgnpkcaaGreat.P
open Go.RowKit PW PL PM
attribute [local go_sem] max2_int min2_int max_two min_two max_three min_three max_four min_four
def segment_words.f (a0 : ByteArray) (a1 : Int) (a2 : Int) : Option (List Int × Int) := (slices_Repeat_int_int.f (([2] : List Int)) a2).bind fun t179 => ((bin_Get.f a0 a1 t179).bind fun bt182 => (some (bt182.1, bt182.2)))
theorem segment_words.calls (a0 : ByteArray) (a1 : Int) (a2 : Int) (r1 : List Int) (r2 : Int) (w : World) (h : segment_words.f a0 a1 a2 = some (r1, r2)) :
  Calls Tryz.prog 109 #[.string a0, .int .i64 a1, .int .i64 a2] w fun e w' => ∃ v0_ : Value, e = .returned (.tuple #[v0_, .int .i64 r2]) ∧ Kd.R (Kd.int .i64) 3 w' w.heap.size (fun _ => True) v0_ r1 ∧ Below w.heap.size w w' := by
 have HB := aK (Below.refl w.heap.size w);have H : ((slices_Repeat_int_int.f (([2] : List Int)) a2).bind fun t179 => ((bin_Get.f a0 a1 t179).bind fun bt182 => (some (bt182.1, bt182.2)))) = some (r1, r2) := h;clear h;obtain ⟨y176, hy176⟩ : ∃ y_ : List Int, y_ = (([2] : List Int)) := ⟨_, rfl⟩;replace H : ((slices_Repeat_int_int.f y176 a2).bind fun t179 => ((bin_Get.f a0 a1 t179).bind fun bt182 => (some (bt182.1, bt182.2)))) = some (r1, r2) := by rw [hy176]; exact H
 have Ny176 := aK hy176;clear hy176;replace H := qS H;obtain ⟨t179, A4, H⟩ := H;replace H := qS H;obtain ⟨⟨t182, t183⟩, A5, H⟩ := H;try dsimp only at H
 obtain ⟨rfl, rfl⟩ := qP H;go_enter Tryz.func109, Tryz.ntmps109;go_wp2_with (first | ((with_reducible refine gate_dst (N := 10) rfl ?_); refine Kd.R_lit (Kd.int .i64) _ 3 ?hg (N := 10) ?hd (xs := ([2] : List Int)) (inner := [.int .i64 2]) (ok := fun _ => True) (okp := fun _ => True) ?hr ?hp (fun _ hk => hk) trivial (Below.refl _ _) (Nat.le_refl _) (by simp) ?_; (case hd => rfl); (case hg => rfl); (case hr => exact hA); (case hp => exact (Reps.one (show Kd.M (Kd.int .i64) _ _ _ 2 [.int .i64 2] from rfl) (Reps.none _ _))); intro v177 w6 ho7 hb hg_ hnew_; clear hg_ hnew_; (first | rw [← Ny176.out] at ho7 | (simp only [Int.reduceToNat] at ho7; rw [← Ny176.out] at ho7)); have HO178 := aK (Kd.R_lower ho7 (below_size bA)); replace HB := aK (below_step bA hb); clear hb ho7; obtain ⟨Ao8, co8, eo8⟩ := Kd.R_slice HO178.out; subst eo8) | ((with_reducible refine gate_callee (f := 21) rfl ?_); refine gL_ 12 Tryz.func21 #[.slice Ao8 y176.length co8, .int .i64 a2] ?_; (with_reducible refine (slices_Repeat_int_int.calls _ _ y176 a2 t179 _ ?side1 ?side2 A4.out).mono ?_); (case side1 => exact cA (Kd.R_reads' HO178.out).2.2); (case side2 => exact (Kd.R_reads' HO178.out).2.1); rintro e w9 ⟨v180, rfl, ho0, hb⟩; refine ⟨_, rfl, ?_⟩; have HO181 := aK (Kd.R_lower (Kd.R_new' ho0 (Kd.R_lt (rA HO178.out))) (below_size bA)); replace HO178 := eL HO178 ho0 hb; replace HB := aK (below_step bA hb); (try clear hb ho0); obtain ⟨Ao10, co10, eo10⟩ := Kd.R_slice HO181.out; subst eo10) | ((with_reducible refine gate_callee (f := 20) rfl ?_); refine gL_ 13 Tryz.func20 #[.string a0, .int .i64 a1, .slice Ao10 t179.length co10] ?_; (with_reducible refine (bin_Get.calls a0 a1 _ _ t179 t182 t183 _ ?side1 ?side2 A5.out).mono ?_); (case side1 => exact cA (Kd.R_reads' HO181.out).2.2); (case side2 => exact (Kd.R_reads' HO181.out).2.1); rintro e w11 ⟨v184, rfl, ho0, hb⟩; refine ⟨_, rfl, ?_⟩; have HO185 := aK (Kd.R_lower (Kd.R_new' (Kd.R_new' ho0 (Kd.R_lt (rA HO178.out))) (Kd.R_lt (rA HO181.out))) (below_size bA)); replace HO178 := eL HO178 ho0 hb; replace HO181 := eL HO181 ho0 hb; replace HB := aK (below_step bA hb); (try clear hb ho0)))
 go_ret2;exact ⟨_, eA, rA (Kd.R_mono HO185.out (fun _ hk => trivial)), bA⟩
end Go.Proofs.YtejdflndgnpkcaaGreat.P
end
