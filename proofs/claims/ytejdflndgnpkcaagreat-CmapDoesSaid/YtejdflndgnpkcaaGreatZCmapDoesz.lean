/- Words, contracts and plain facts of the proof. Each says its own condition. -/
import Derived.Test.YtejdflndgnpkcaaGreatZCmapDoest
import Derived.Test.YtejdflndgnpkcaaGreatZCmapDoesy
import Derived.StillTailTactics
import Derived.Deep.RegionHeld3
import Derived.Deep.QuietTactic
import Derived.BigQuiet
import Derived.Test.YtejdflndgnpkcaaGreatZCmapDoese
set_option linter.unusedVariables false
set_option maxRecDepth 100000
set_option linter.unusedSimpArgs false
set_option maxHeartbeats 16000000
section
namespace Go.Proofs.YtejdflndgnpkcaaGreat.P
open Go.RowKit PW PL PM
def wordsL (s : ByteArray) (p n : Nat) : List Int := (List.range n).map (fun i => w2 s (p + 2 * i))
theorem wordsL_length (s : ByteArray) (p n : Nat) : (wordsL s p n).length = n := by unfold wordsL; simp
theorem wordsL_at (s : ByteArray) (p n i : Nat) (h : i < n) : rd (wordsL s p n) (i : Int) = w2 s (p + 2 * i) := by
 unfold rd wordsL;rw [Int.toNat_natCast, List.getD_eq_getElem?_getD, List.getElem?_map, List.getElem?_range h];rfl
theorem words_told (s : ByteArray) (p n : Nat) (hn : n ≤ 131072) : segment_words.f s (p : Int) (n : Int) = some (if p + 2 * n ≤ s.size then (wordsL s p n, 0) else ([], 4)) := by
 unfold segment_words.f;rw [rep_told n hn, Option.bind_some]
 have h : bin_Get.f s (p : Int) (repN [2] n) = some (getN s (p : Int) (repN [2] n)) := by
  unfold bin_Get.f;rw [if_pos (by rw [rep_one]; omega)]
 rw [h, Option.bind_some, get_rep s (s := 2) (by decide) p n];have e : (2 : Int).natAbs = 2 := rfl;rw [e];split <;> rfl
def headE (s : ByteArray) : Int :=
 if s.size < 14 then 4
 else if w2 s 0 ≠ 4 ∨ w2 s 6 % 2 ≠ 0 ∨ w2 s 6 / 2 = 0 then 5
 else if (s.size : Int) < w2 s 2 then 4
 else if w2 s 2 < 16 + 8 * (cntF s : Int) then 5
 else 0
def bodyF (s : ByteArray) : ByteArray := s.extract 0 (w2 s 2).toNat
theorem getS_head (s : ByteArray) : getS s = if headE s ≠ 0 then ([], headE s) else if rightF (bodyF s) (cntF s) = false then ([], 5) else match segsF (bodyF s) (cntF s) (cntF s) with
  | none => ([], 4)
  | some l => (l, 0) := by
 unfold getS headE bodyF;split
 · rfl
 split
 · rfl
 split
 · rfl
 split
 · rfl
 rfl
def tableV (t : ByteArray) (A1 A2 A3 A4 : Option Addr) (n : Nat) : Value := .agg #[.string t, .slice A1 n n, .slice A2 n n, .slice A3 n n, .slice A4 n n]
def noTable : Value := .agg #[.string ⟨#[]⟩, .slice none 0 0, .slice none 0 0, .slice none 0 0, .slice none 0 0]
def put5 (W : World) (g : Nat) (v0 v1 v2 v3 v4 : Value) : World := ((((W.setCell ⟨g, 0, none⟩ v0).setCell ⟨g, 1, none⟩ v1).setCell ⟨g, 2, none⟩ v2).setCell ⟨g, 3, none⟩ v3).setCell ⟨g, 4, none⟩ v4
theorem put5_block {W : World} {g : Nat} {u0 u1 u2 u3 u4 : Value} {e : TypeId} (hg : W.heap[g]? = some (.cells #[u0, u1, u2, u3, u4] e (0, 0))) (v0 v1 v2 v3 v4 : Value) : (put5 W g v0 v1 v2 v3 v4).heap[g]? = some (.cells #[v0, v1, v2, v3, v4] e (0, 0)) := by
 unfold put5;have h := blk_set (blk_set (blk_set (blk_set (blk_set hg 0 v0) 1 v1) 2 v2) 3 v3) 4 v4;simpa using h
theorem put5_other (W : World) (g : Nat) (v0 v1 v2 v3 v4 : Value) (k : Nat) (h : k ≠ g) : (put5 W g v0 v1 v2 v3 v4).heap[k]? = W.heap[k]? := by
 unfold put5;rw [Below.heap_setCell _ _ _ k h, Below.heap_setCell _ _ _ k h, Below.heap_setCell _ _ _ k h, Below.heap_setCell _ _ _ k h, Below.heap_setCell _ _ _ k h]
theorem put5_below {W w0 : World} {B g : Nat} (hb : Below B w0 W) (h : B ≤ g) (v0 v1 v2 v3 v4 : Value) : Below B w0 (put5 W g v0 v1 v2 v3 v4) := ((((hb.setCell h _).setCell h _).setCell h _).setCell h _).setCell h _
theorem cells5 {W : World} {g : Nat} {v0 v1 v2 v3 v4 : Value} {e : TypeId} (hg : W.heap[g]? = some (.cells #[v0, v1, v2, v3, v4] e (0, 0))) :
  W.cell? ⟨g, 0, none⟩ = some v0 ∧ W.cell? ⟨g, 1, none⟩ = some v1 ∧ W.cell? ⟨g, 2, none⟩ = some v2 ∧ W.cell? ⟨g, 3, none⟩ = some v3 ∧ W.cell? ⟨g, 4, none⟩ = some v4 :=
 ⟨(blk_cell hg 0).trans rfl, (blk_cell hg 1).trans rfl, (blk_cell hg 2).trans rfl, (blk_cell hg 3).trans rfl, (blk_cell hg 4).trans rfl⟩
theorem frozen5 {W : World} {g : Nat} {cs : Array Value} {e : TypeId} (hg : W.heap[g]? = some (.cells cs e (0, 0))) :
  W.frozen? ⟨g, 0, none⟩ = false ∧ W.frozen? ⟨g, 1, none⟩ = false ∧ W.frozen? ⟨g, 2, none⟩ = false ∧ W.frozen? ⟨g, 3, none⟩ = false ∧ W.frozen? ⟨g, 4, none⟩ = false :=
 ⟨Lib.frozen_of_heap hg 0, Lib.frozen_of_heap hg 1, Lib.frozen_of_heap hg 2, Lib.frozen_of_heap hg 3, Lib.frozen_of_heap hg 4⟩
theorem results_read (tmps : Array Value) (g : Nat) (s : ByteArray) (A1 A2 A3 A4 : Option Addr) (n1 n2 n3 n4 k1 k2 k3 k4 : Nat) (e : Int) (W : World) (h2 : tmps[2]?.getD undef = .pointer (some ⟨g, 0, none⟩)) (h3 : tmps[3]?.getD undef = .int .i64 e)
  (hg : W.heap[g]? = some (.cells #[.string s, .slice A1 n1 k1, .slice A2 n2 k2, .slice A3 n3 k3, .slice A4 n4 k4] 105 (0, 0))) :
  (results Tryz.f79 tmps).run Tryz.prog W = .ok (.tuple #[.agg #[.string s, .slice A1 n1 k1, .slice A2 n2 k2, .slice A3 n3 k3, .slice A4 n4 k4], .int .i64 e]) W := by
 have hci : (Tryz.prog.info? 105).map (fun i => i.size) = some 5 := by kernel_rfl
 have c0 : W.cell? ⟨g, 0, none⟩ = some (.string s) := (blk_cell hg 0).trans rfl;have c1 : W.cell? ⟨g, 1, none⟩ = some (.slice A1 n1 k1) := (blk_cell hg 1).trans rfl;have c2 : W.cell? ⟨g, 2, none⟩ = some (.slice A2 n2 k2) := (blk_cell hg 2).trans rfl;have c3 : W.cell? ⟨g, 3, none⟩ = some (.slice A3 n3 k3) := (blk_cell hg 3).trans rfl;have c4 : W.cell? ⟨g, 4, none⟩ = some (.slice A4 n4 k4) := (blk_cell hg 4).trans rfl;simp [results, Tryz.results79, go_sem, h2, h3, c0, c1, c2, c3, c4]
theorem read_more (s : ByteArray) (w : World) (h : s.size < 14) :
  Calls Tryz.prog 79 #[.string s] w fun e w' => e = .returned (.tuple #[noTable, .int .i64 4]) ∧ Below w.heap.size w w' := by
 have hz := (zero_of_info (P := Tryz.prog) (t := 105) (v := noTable) (n := 5) (by kernel_rfl)).1;have hz2 := (zero_of_info (P := Tryz.prog) (t := 35) (v := .slice none 0 0) (n := 1) (by kernel_rfl)).1
 have HW := hI (show segment_words.f s 0 7 = some ([], 4) by
  have := words_told s 0 7 (by decide);rw [if_neg (by omega)] at this;exact this)
 clear h;unfold noTable at hz;go_enter Tryz.func79, Tryz.ntmps79;go_wp2_with fail
 refine (segment_words.calls s 0 7 [] 4 _ HW.out).mono ?_;rintro e w1 ⟨v, rfl, hr, hb⟩;obtain ⟨A1, k1, rfl⟩ := Kd.R_slice hr;have hg0 : (w.alloc (.cells #[.string ⟨#[]⟩, .slice none 0 0, .slice none 0 0, .slice none 0 0, .slice none 0 0] 105)).heap[w.heap.size]? = some (.cells #[.string ⟨#[]⟩, .slice none 0 0, .slice none 0 0, .slice none 0 0, .slice none 0 0] 105 (0, 0)) := World.alloc_heap_new w _;have hbw : Below w.heap.size w w1 := ((Below.refl _ w).alloc (Nat.le_refl _) _).trans (hb.mono (by simp));have hlt : w.heap.size < w1.heap.size := by have := hb.size; simp at this; omega
 have hg1 := (hb.block w.heap.size (by simp)).trans hg0;have hg2 := (Below.heap_alloc w1 (.cells #[.slice A1 0 k1] 35) w.heap.size hlt).trans hg1;obtain ⟨c0, c1, c2, c3, c4⟩ := cells5 hg2;obtain ⟨f0, f1, f2, f3, f4⟩ := frozen5 hg2;have HCW := hI (put5_block hg2 (.string ⟨#[]⟩) (.slice none 0 0) (.slice none 0 0) (.slice none 0 0) (.slice none 0 0));have HBW := hI (put5_below (hbw.alloc hbw.size (.cells #[.slice A1 0 k1] 35)) (Nat.le_refl _) (.string ⟨#[]⟩) (.slice none 0 0) (.slice none 0 0) (.slice none 0 0) (.slice none 0 0));clear hr hb hg0 hbw hlt hg1 hg2;go_wp2;refine bodyPost_ret (v := .tuple #[noTable, .int .i64 4]) (results_read _ w.heap.size _ _ _ _ _ _ _ _ _ _ _ _ _ _ _ rfl rfl HCW.out) rfl ⟨rfl, HBW.out⟩
theorem head_words (s : ByteArray) (h : 14 ≤ s.size) : segment_words.f s 0 7 = some (wordsL s 0 7, 0) := by
 have := words_told s 0 7 (by decide);rw [if_pos (by omega)] at this;exact this
theorem read_bad (s : ByteArray) (w : World) (h : 14 ≤ s.size) (he : headE s ≠ 0) :
  Calls Tryz.prog 79 #[.string s] w fun e w' => e = .returned (.tuple #[noTable, .int .i64 (headE s)]) ∧ Below w.heap.size w w' := by
 have hz := (zero_of_info (P := Tryz.prog) (t := 105) (v := noTable) (n := 5) (by kernel_rfl)).1;have hz2 := (zero_of_info (P := Tryz.prog) (t := 35) (v := .slice none 0 0) (n := 1) (by kernel_rfl)).1;have hz3 := (zero_of_info (P := Tryz.prog) (t := 3) (v := .int .i64 0) (n := 1) (by kernel_rfl)).1;have HW := hI (head_words s h);have HE := hI he;have HS := hI h;clear h he;unfold noTable at hz;go_enter Tryz.func79, Tryz.ntmps79;go_wp2_with fail
 refine (segment_words.calls s 0 7 _ 0 _ HW.out).mono ?_;rintro e w1 ⟨v, rfl, hr, hb⟩;obtain ⟨X, hX⟩ : ∃ X, X = wordsL s 0 7 := ⟨_, rfl⟩;have HX := hI hX;have hXl : X.length = 7 := by rw [hX, wordsL_length]
 rw [← hX] at hr;obtain ⟨ga, k1, rfl, hga, hgl, _, _, hcs⟩ := row_block hr (by rw [hXl]; decide);have x0 := hcs 0 (by rw [hXl]; decide);have x1 := hcs 1 (by rw [hXl]; decide);have x3 := hcs 3 (by rw [hXl]; decide);have e0 : rd X ((0 : Nat) : Int) = w2 s 0 := by rw [hX]; exact wordsL_at s 0 7 0 (by decide)
 have e1 : rd X ((1 : Nat) : Int) = w2 s 2 := by rw [hX]; exact wordsL_at s 0 7 1 (by decide)
 have e3 : rd X ((3 : Nat) : Int) = w2 s 6 := by rw [hX]; exact wordsL_at s 0 7 3 (by decide)
 rw [e0] at x0;rw [e1] at x1;rw [e3] at x3;obtain ⟨F, hF⟩ : ∃ F, F = w2 s 0 := ⟨_, rfl⟩;obtain ⟨L, hL⟩ : ∃ L, L = w2 s 2 := ⟨_, rfl⟩;obtain ⟨D, hD⟩ : ∃ D, D = w2 s 6 := ⟨_, rfl⟩;rw [← hF] at x0;rw [← hL] at x1;rw [← hD] at x3;rw [hXl];have hbd : (0 ≤ F ∧ F ≤ 65535) ∧ (0 ≤ L ∧ L ≤ 65535) ∧ 0 ≤ D ∧ D ≤ 65535 := ⟨by rw [hF]; exact w2_bd s 0, by rw [hL]; exact w2_bd s 2, by rw [hD]; exact w2_bd s 6⟩;have HBD := hI hbd;have HF := hI hF;have HL := hI hL;have HD := hI hD;have hg0 : (w.alloc (.cells #[.string ⟨#[]⟩, .slice none 0 0, .slice none 0 0, .slice none 0 0, .slice none 0 0] 105)).heap[w.heap.size]? = some (.cells #[.string ⟨#[]⟩, .slice none 0 0, .slice none 0 0, .slice none 0 0, .slice none 0 0] 105 (0, 0)) := World.alloc_heap_new w _;have hbw : Below w.heap.size w w1 := ((Below.refl _ w).alloc (Nat.le_refl _) _).trans (hb.mono (by simp));have hlt : w.heap.size < w1.heap.size := by have := hb.size; simp at this; omega
 have hg1 := (hb.block w.heap.size (by simp)).trans hg0;obtain ⟨u, hu⟩ : ∃ u, u = w1.alloc (.cells #[.slice (some ⟨ga, 0, none⟩) 7 k1] 35) := ⟨_, rfl⟩;have hg2 : u.heap[w.heap.size]? = some (.cells #[.string ⟨#[]⟩, .slice none 0 0, .slice none 0 0, .slice none 0 0, .slice none 0 0] 105 (0, 0)) := by rw [hu]; exact (Below.heap_alloc w1 _ w.heap.size hlt).trans hg1
 have hub : Below w1.heap.size w1 u := by rw [hu]; exact (Below.refl _ w1).alloc (Nat.le_refl _) _
 have hus : u.heap.size = w1.heap.size + 1 := by rw [hu]; simp
 have hul : u.cell? ⟨w1.heap.size, 0, none⟩ = some (.slice (some ⟨ga, 0, none⟩) 7 k1) := by rw [hu]; simp [go_sem]
 have y0 := (hub.cell (p := ⟨ga, 0, none⟩) hgl).trans x0;have y1 := (hub.cell (p := ⟨ga, 1, none⟩) hgl).trans x1;have y3 := (hub.cell (p := ⟨ga, 3, none⟩) hgl).trans x3;have HBU := hI (hbw.trans (hub.mono hbw.size));have HUS := hI hus;have HLT := hI hlt;have HG2 := hI hg2;clear hr hb hg0 hbw hlt hg1 hg2 hcs x0 x1 x3 e0 e1 e3 hF hL hD hbd hX hXl hga hgl hub hus;go_wp2_with fail
 rw [← hu];clear hu;obtain ⟨N, hN⟩ : ∃ N, N = D / 2 := ⟨_, rfl⟩;have hdiv1 : D.tdiv 2 = N := by rw [hN]; exact Int.tdiv_eq_ediv_of_nonneg HBD.out.2.2.1
 have hdiv2 : D / 2 = N := hN.symm;have hmod1 : D.tmod 2 = D % 2 := Int.tmod_eq_emod_of_nonneg HBD.out.2.2.1
 have hwN : IntKind.i64.wrap N = N := by
  have := HBD.out;rw [i64_w]; unfold wrap64; omega
 have HN := hI hN;clear hN;go_region_held3 (fun v => v.cell? ⟨w1.heap.size, 0, none⟩ = some (.slice (some ⟨ga, 0, none⟩) 7 k1) ∧ v.cell? ⟨ga, 1, none⟩ = some (.int .i64 L) ∧ v.cell? ⟨ga, 3, none⟩ = some (.int .i64 D)) (first | exact ⟨by assumption, by assumption, by assumption⟩ | exact ⟨cell_al _ (by assumption), cell_al _ (by assumption), cell_al _ (by assumption)⟩ | go_keep) (fail)
 obtain ⟨v, hv⟩ : ∃ v, v = (u.alloc (.cells #[.int .i64 N] 3)).drew := ⟨_, rfl⟩;rw [← hv];have hgl := World.block_lt_of_cell? _ _ y0;dsimp only at hgl
 have hb3 : Below u.heap.size u v := by rw [hv]; exact below_drew1 ((Below.refl _ u).alloc (Nat.le_refl _) _)
 have vn : v.cell? ⟨u.heap.size, 0, none⟩ = some (.int .i64 N) := by rw [hv]; simp [go_sem]
 have v0 := (hb3.cell (p := ⟨ga, 0, none⟩) hgl).trans y0;have v1 := (hb3.cell (p := ⟨ga, 1, none⟩) hgl).trans y1;have v3 := (hb3.cell (p := ⟨ga, 3, none⟩) hgl).trans y3;have vl := (hb3.cell (p := ⟨w1.heap.size, 0, none⟩) (by rw [HUS.out]; exact Nat.lt_succ_self _)).trans hul;have hgv := (hb3.block w.heap.size (by have := HLT.out; have := HUS.out; omega)).trans HG2.out;obtain ⟨c0, c1, c2, c3, c4⟩ := cells5 hgv;obtain ⟨f0, f1, f2, f3, f4⟩ := frozen5 hgv;have HCW := hI (put5_block hgv (.string ⟨#[]⟩) (.slice none 0 0) (.slice none 0 0) (.slice none 0 0) (.slice none 0 0));have HBW := hI (put5_below (HBU.out.trans (hb3.mono HBU.out.size)) (Nat.le_refl _) (.string ⟨#[]⟩) (.slice none 0 0) (.slice none 0 0) (.slice none 0 0) (.slice none 0 0));clear hb3 hgl hgv y0 y1 y3 hul hv;have hform : ∀ (e : Int), headE s = e → (Ending.returned (.tuple #[noTable, .int .i64 e]) = Ending.returned (.tuple #[noTable, .int .i64 (headE s)])) := fun e he => by rw [he]
 have HFORM := hI hform;clear hform;have hcn : (cntF s : Int) = N := by unfold cntF; rw [← HD.out, HN.out]; have := HBD.out; omega
 by_cases hbad : F ≠ 4 ∨ D % 2 ≠ 0 ∨ N = 0
 ·
  have HQ := hI (show headE s = 5 by
   unfold headE;rw [if_neg (by have := HS.out; omega), ← HF.out, ← HD.out, ← HN.out, if_pos hbad])
  obtain ⟨q1, hq1⟩ : ∃ q1, (F != 4) = q1 := ⟨_, rfl⟩;obtain ⟨q2, hq2⟩ : ∃ q2, (D % 2 != 0) = q2 := ⟨_, rfl⟩;obtain ⟨q3, hq3⟩ : ∃ q3, (N == 0) = q3 := ⟨_, rfl⟩
  have hq : q1 = true ∨ q2 = true ∨ q3 = true := by
   rw [← hq1, ← hq2, ← hq3];simpa using hbad
  clear hbad hcn;cases q1 <;> cases q2 <;> cases q3
  case' false.false.false => exact absurd hq (by decide)
  all_goals
   clear hq;go_wp2;refine bodyPost_ret (v := .tuple #[noTable, .int .i64 5]) (results_read _ w.heap.size _ _ _ _ _ _ _ _ _ _ _ _ _ _ _ rfl rfl HCW.out) rfl ⟨HFORM.out 5 HQ.out, HBW.out⟩
 have hq1 : (F != 4) = false := by simp; omega
 have hq2 : (D % 2 != 0) = false := by simp; omega
 have hq3 : (N == 0) = false := by simp; omega
 have hnb : 0 ≤ N ∧ N ≤ 32767 := by have := HBD.out; have := HN.out; omega
 have hw1 : wrap64 (8 * N) = 8 * N := by unfold wrap64; omega
 have hw2 : wrap64 (16 + 8 * N) = 16 + 8 * N := by unfold wrap64; omega
 by_cases hlen : (s.size : Int) < L
 ·
  have HQ := hI (show headE s = 4 by
   unfold headE;rw [if_neg (by have := HS.out; omega), ← HF.out, ← HD.out, ← HN.out, if_neg hbad, ← HL.out, if_pos hlen])
  have d1 : decide ((s.size : Int) < L) = true := decide_eq_true hlen;clear hbad hlen hnb hcn;go_wp2;refine bodyPost_ret (v := .tuple #[noTable, .int .i64 4]) (results_read _ w.heap.size _ _ _ _ _ _ _ _ _ _ _ _ _ _ _ rfl rfl HCW.out) rfl ⟨HFORM.out 4 HQ.out, HBW.out⟩
 have d1 : decide ((s.size : Int) < L) = false := decide_eq_false hlen;by_cases hsh : L < 16 + 8 * N
 ·
  have HQ := hI (show headE s = 5 by
   unfold headE;rw [if_neg (by have := HS.out; omega), ← HF.out, ← HD.out, ← HN.out, if_neg hbad, ← HL.out, if_neg hlen, hcn, if_pos hsh])
  have d2 : decide (L < 16 + 8 * N) = true := decide_eq_true hsh;clear hbad hlen hnb hcn hsh;go_wp2;refine bodyPost_ret (v := .tuple #[noTable, .int .i64 5]) (results_read _ w.heap.size _ _ _ _ _ _ _ _ _ _ _ _ _ _ _ rfl rfl HCW.out) rfl ⟨HFORM.out 5 HQ.out, HBW.out⟩
 refine absurd ?_ HE.out;unfold headE;rw [if_neg (by have := HS.out; omega), ← HF.out, ← HD.out, ← HN.out, if_neg hbad, ← HL.out, if_neg hlen, hcn, if_neg hsh]
def ReadOk (s : ByteArray) (w : World) (e : Ending) (w' : World) : Prop :=
 ∃ A1 A2 A3 A4 : Option Addr, e = .returned (.tuple #[tableV (bodyF s) A1 A2 A3 A4 (cntF s), .int .i64 0]) ∧ Below w.heap.size w w' ∧
  Kd.C (Kd.int .i64) w' A1 (cntF s) (wordsL (bodyF s) 14 (cntF s)) ∧ Kd.C (Kd.int .i64) w' A2 (cntF s) (wordsL (bodyF s) (16 + 2 * cntF s) (cntF s)) ∧
  Kd.C (Kd.int .i64) w' A3 (cntF s) (wordsL (bodyF s) (16 + 4 * cntF s) (cntF s)) ∧ Kd.C (Kd.int .i64) w' A4 (cntF s) (wordsL (bodyF s) (16 + 6 * cntF s) (cntF s))
theorem store5_run {oi : Oper} {a : Act} {w : World} {g : Nat} {p v : Tmp} {e : TypeId} (s : ByteArray) (A1 A2 A3 A4 : Option Addr) (n1 n2 n3 n4 k1 k2 k3 k4 : Nat) {u0 u1 u2 u3 u4 : Value} (hop : oi.op = .store 105 (.tmp p) (.tmp v)) (hp : a.eval (.tmp p) = .pointer (some ⟨g, 0, none⟩)) (hv : a.eval (.tmp v) = .agg #[.string s, .slice A1 n1 k1, .slice A2 n2 k2, .slice A3 n3 k3, .slice A4 n4 k4])
  (hg : w.heap[g]? = some (.cells #[u0, u1, u2, u3, u4] e (0, 0))) :
  (execOp a.eval oi).run Tryz.prog w = .ok .skip (put5 w g (.string s) (.slice A1 n1 k1) (.slice A2 n2 k2) (.slice A3 n3 k3) (.slice A4 n4 k4)) := by
 obtain ⟨c0, c1, c2, c3, c4⟩ := cells5 hg;obtain ⟨f0, f1, f2, f3, f4⟩ := frozen5 hg;have hsz : ∀ w : World, (sizeOf 105).run Tryz.prog w = .ok 5 w := fun w => by kernel_rfl
 unfold execOp put5;rw [hop];dsimp only
 rw [hp, hv];go_simp
theorem part_C {t : ByteArray} {Y : List Int} {W : World} {gb m p n : Nat} (hc : ∀ j, j < m → W.cell? ⟨gb, j, none⟩ = some (.int .i64 (rd Y (j : Int)))) (hY : Y = wordsL t 14 m) (hp : p + n ≤ m) (hn : n ≤ 9223372036854775807) : Kd.C (Kd.int .i64) W (some ⟨gb, p, none⟩) n (wordsL t (14 + 2 * p) n) := by
 refine ⟨wordsL_length _ _ _, hn, fun _ => ⟨_, rfl, fun j q hj => ?_⟩⟩
 have hjn : j < n := by
  rcases Nat.lt_or_ge j n with h | h
  · exact h
  rw [List.getElem?_eq_none (by rw [wordsL_length]; exact h)] at hj; simp at hj
 have hq : q = w2 t (14 + 2 * p + 2 * j) := by
  unfold wordsL at hj;rw [List.getElem?_map, List.getElem?_range hjn] at hj;exact (Option.some.inj hj).symm
 refine ⟨[.int .i64 q], rfl, rfl, fun i u hu => ?_⟩;match i, hu with
 | 0, hu =>
  have hu : Value.int .i64 q = u := by simpa using hu
  have h1 := hc (p + j) (by omega);rw [hY, wordsL_at t 14 m (p + j) (by omega)] at h1;rw [← hu, hq, show 14 + 2 * p + 2 * j = 14 + 2 * (p + j) by omega, ← h1];congr 1
  show Addr.add _ _ = _
  unfold Addr.add;simp [Kd.int, Kd.scalar]
theorem keepP {W : World} {b g : Nat} {x v0 v1 v2 v3 v4 : Value} (h : W.cell? ⟨b, 0, none⟩ = some x) (hne : b ≠ g) : (put5 W g v0 v1 v2 v3 v4).cell? ⟨b, 0, none⟩ = some x := by
 have e2 := cell_of (a := ⟨b, 0, none⟩) (put5_other W g v0 v1 v2 v3 v4 b hne);exact e2.trans h
theorem part_calls (lb nb : Nat) (gb len cap : Nat) (p n : Nat) (w : World) (hl : w.cell? ⟨lb, 0, none⟩ = some (.slice (some ⟨gb, 0, none⟩) len cap)) (hn : w.cell? ⟨nb, 0, none⟩ = some (.int .i64 (n : Int))) (hp : p + n ≤ len) (hn0 : 0 < n) (hc : len ≤ cap) (hm : cap ≤ maxLen) :
  Calls Tryz.prog 110 #[.int .i64 (p : Int), .pointer (some ⟨lb, 0, none⟩), .pointer (some ⟨nb, 0, none⟩)] w fun e w' => e = .returned (.slice (some ⟨gb, p, none⟩) n n) ∧ w = w' := by
 have hm' : cap ≤ 9223372036854775807 := by unfold maxLen at hm; exact hm
 have hw : wrap64 ((p : Int) + (n : Int)) = ((p + n : Nat) : Int) := by unfold wrap64; omega
 have a0 : (0 : Int) ≤ (p : Int) := by omega
 have a1 : (p : Int) ≤ ((p + n : Nat) : Int) := by omega
 have a2 : ((p + n : Nat) : Int) ≤ (cap : Int) := by omega
 clear hm;go_enter Tryz.func110, Tryz.ntmps110;go_wp2;go_ret;rw [Nat.add_sub_cancel_left];exact ⟨rfl, rfl⟩
theorem read_ok (s : ByteArray) (w : World) (h : 14 ≤ s.size) (he : headE s = 0) :
  Calls Tryz.prog 79 #[.string s] w (ReadOk s w) := by
 have hz := (zero_of_info (P := Tryz.prog) (t := 105) (v := noTable) (n := 5) (by kernel_rfl)).1;have hz2 := (zero_of_info (P := Tryz.prog) (t := 35) (v := .slice none 0 0) (n := 1) (by kernel_rfl)).1;have hz3 := (zero_of_info (P := Tryz.prog) (t := 3) (v := .int .i64 0) (n := 1) (by kernel_rfl)).1;have HW := hI (head_words s h);have HE := hI he;have HS := hI h;clear h he;unfold noTable at hz;go_enter Tryz.func79, Tryz.ntmps79;go_wp2_with fail
 refine (segment_words.calls s 0 7 _ 0 _ HW.out).mono ?_;rintro e w1 ⟨v, rfl, hr, hb⟩;obtain ⟨X, hX⟩ : ∃ X, X = wordsL s 0 7 := ⟨_, rfl⟩;have HX := hI hX;have hXl : X.length = 7 := by rw [hX, wordsL_length]
 rw [← hX] at hr;obtain ⟨ga, k1, rfl, hga, hgl, _, _, hcs⟩ := row_block hr (by rw [hXl]; decide);have x0 := hcs 0 (by rw [hXl]; decide);have x1 := hcs 1 (by rw [hXl]; decide);have x3 := hcs 3 (by rw [hXl]; decide);have e0 : rd X ((0 : Nat) : Int) = w2 s 0 := by rw [hX]; exact wordsL_at s 0 7 0 (by decide)
 have e1 : rd X ((1 : Nat) : Int) = w2 s 2 := by rw [hX]; exact wordsL_at s 0 7 1 (by decide)
 have e3 : rd X ((3 : Nat) : Int) = w2 s 6 := by rw [hX]; exact wordsL_at s 0 7 3 (by decide)
 rw [e0] at x0;rw [e1] at x1;rw [e3] at x3;obtain ⟨F, hF⟩ : ∃ F, F = w2 s 0 := ⟨_, rfl⟩;obtain ⟨L, hL⟩ : ∃ L, L = w2 s 2 := ⟨_, rfl⟩;obtain ⟨D, hD⟩ : ∃ D, D = w2 s 6 := ⟨_, rfl⟩;rw [← hF] at x0;rw [← hL] at x1;rw [← hD] at x3;rw [hXl];have hbd : (0 ≤ F ∧ F ≤ 65535) ∧ (0 ≤ L ∧ L ≤ 65535) ∧ 0 ≤ D ∧ D ≤ 65535 := ⟨by rw [hF]; exact w2_bd s 0, by rw [hL]; exact w2_bd s 2, by rw [hD]; exact w2_bd s 6⟩;have HBD := hI hbd;have HF := hI hF;have HL := hI hL;have HD := hI hD;have hg0 : (w.alloc (.cells #[.string ⟨#[]⟩, .slice none 0 0, .slice none 0 0, .slice none 0 0, .slice none 0 0] 105)).heap[w.heap.size]? = some (.cells #[.string ⟨#[]⟩, .slice none 0 0, .slice none 0 0, .slice none 0 0, .slice none 0 0] 105 (0, 0)) := World.alloc_heap_new w _;have hbw : Below w.heap.size w w1 := ((Below.refl _ w).alloc (Nat.le_refl _) _).trans (hb.mono (by simp));have hlt : w.heap.size < w1.heap.size := by have := hb.size; simp at this; omega
 have hg1 := (hb.block w.heap.size (by simp)).trans hg0;obtain ⟨u, hu⟩ : ∃ u, u = w1.alloc (.cells #[.slice (some ⟨ga, 0, none⟩) 7 k1] 35) := ⟨_, rfl⟩;have hg2 : u.heap[w.heap.size]? = some (.cells #[.string ⟨#[]⟩, .slice none 0 0, .slice none 0 0, .slice none 0 0, .slice none 0 0] 105 (0, 0)) := by rw [hu]; exact (Below.heap_alloc w1 _ w.heap.size hlt).trans hg1
 have hub : Below w1.heap.size w1 u := by rw [hu]; exact (Below.refl _ w1).alloc (Nat.le_refl _) _
 have hus : u.heap.size = w1.heap.size + 1 := by rw [hu]; simp
 have hul : u.cell? ⟨w1.heap.size, 0, none⟩ = some (.slice (some ⟨ga, 0, none⟩) 7 k1) := by rw [hu]; simp [go_sem]
 have y0 := (hub.cell (p := ⟨ga, 0, none⟩) hgl).trans x0;have y1 := (hub.cell (p := ⟨ga, 1, none⟩) hgl).trans x1;have y3 := (hub.cell (p := ⟨ga, 3, none⟩) hgl).trans x3;have HULB := hI (show u.heap[w1.heap.size]? = some (.cells #[.slice (some ⟨ga, 0, none⟩) 7 k1] 35 (0, 0)) by rw [hu]; exact World.alloc_heap_new w1 _);have HBU := hI (hbw.trans (hub.mono hbw.size));have HUS := hI hus;have HLT := hI hlt;have HG2 := hI hg2;clear hr hb hg0 hbw hlt hg1 hg2 hcs x0 x1 x3 e0 e1 e3 hF hL hD hbd hX hXl hga hgl hub hus;go_wp2_with fail
 rw [← hu];clear hu;obtain ⟨N, hN⟩ : ∃ N, N = D / 2 := ⟨_, rfl⟩;have hdiv1 : D.tdiv 2 = N := by rw [hN]; exact Int.tdiv_eq_ediv_of_nonneg HBD.out.2.2.1
 have hdiv2 : D / 2 = N := hN.symm;have hmod1 : D.tmod 2 = D % 2 := Int.tmod_eq_emod_of_nonneg HBD.out.2.2.1
 have hwN : IntKind.i64.wrap N = N := by
  have := HBD.out;rw [i64_w]; unfold wrap64; omega
 have HN := hI hN;clear hN;go_region_held3 (fun v => v.cell? ⟨w1.heap.size, 0, none⟩ = some (.slice (some ⟨ga, 0, none⟩) 7 k1) ∧ v.cell? ⟨ga, 1, none⟩ = some (.int .i64 L) ∧ v.cell? ⟨ga, 3, none⟩ = some (.int .i64 D)) (first | exact ⟨by assumption, by assumption, by assumption⟩ | exact ⟨cell_al _ (by assumption), cell_al _ (by assumption), cell_al _ (by assumption)⟩ | go_keep) (fail)
 obtain ⟨v, hv⟩ : ∃ v, v = (u.alloc (.cells #[.int .i64 N] 3)).drew := ⟨_, rfl⟩;rw [← hv];have hgl := World.block_lt_of_cell? _ _ y0;dsimp only at hgl
 have hb3 : Below u.heap.size u v := by rw [hv]; exact below_drew1 ((Below.refl _ u).alloc (Nat.le_refl _) _)
 have vn : v.cell? ⟨u.heap.size, 0, none⟩ = some (.int .i64 N) := by rw [hv]; simp [go_sem]
 have v0 := (hb3.cell (p := ⟨ga, 0, none⟩) hgl).trans y0;have v1 := (hb3.cell (p := ⟨ga, 1, none⟩) hgl).trans y1;have v3 := (hb3.cell (p := ⟨ga, 3, none⟩) hgl).trans y3;have vl := (hb3.cell (p := ⟨w1.heap.size, 0, none⟩) (by rw [HUS.out]; exact Nat.lt_succ_self _)).trans hul;have hgv := (hb3.block w.heap.size (by have := HLT.out; have := HUS.out; omega)).trans HG2.out;obtain ⟨c0, c1, c2, c3, c4⟩ := cells5 hgv;obtain ⟨f0, f1, f2, f3, f4⟩ := frozen5 hgv;have HCW := hI (put5_block hgv (.string ⟨#[]⟩) (.slice none 0 0) (.slice none 0 0) (.slice none 0 0) (.slice none 0 0));have HBW := hI (put5_below (HBU.out.trans (hb3.mono HBU.out.size)) (Nat.le_refl _) (.string ⟨#[]⟩) (.slice none 0 0) (.slice none 0 0) (.slice none 0 0) (.slice none 0 0));have HB3 := hI hb3;have HGV := hI hgv;have HNB := hI vn;have HUV := hI (show v.heap.size = u.heap.size + 1 by rw [hv]; simp);clear hb3 hgl hgv y0 y1 y3 hul hv HCW HBW
 have hfacts : ¬ (F ≠ 4 ∨ D % 2 ≠ 0 ∨ N = 0) ∧ ¬ ((s.size : Int) < L) ∧ ¬ (L < 16 + 8 * N) ∧ (cntF s : Int) = N := by
  have hcn : (cntF s : Int) = N := by unfold cntF; rw [← HD.out, HN.out]; have := HBD.out; omega
  have h0 := HE.out;unfold headE at h0;rw [if_neg (by have := HS.out; omega), ← HF.out, ← HD.out, ← HN.out, ← HL.out, hcn] at h0;split at h0
  · exact absurd h0 (by decide)
  rename_i g1
  split at h0
  · exact absurd h0 (by decide)
  rename_i g2
  split at h0
  · exact absurd h0 (by decide)
  rename_i g3
  exact ⟨g1, g2, g3, hcn⟩
 obtain ⟨g1, g2, g3, hcn⟩ := hfacts;obtain ⟨n, hn⟩ : ∃ n, n = cntF s := ⟨_, rfl⟩;rw [← hn] at hcn;have hn0 : 0 < n := by omega
 have hn1 : n ≤ 32767 := by have := HBD.out; have := HN.out; omega
 subst hcn;have hq1 : (F != 4) = false := by simp; omega
 have hq2 : (D % 2 != 0) = false := by simp; omega
 have hq3 : ((n : Int) == 0) = false := by simp; omega
 have hq4 : (n == 0) = false := by simp; omega
 have hw1 : wrap64 (8 * (n : Int)) = 8 * (n : Int) := by unfold wrap64; omega
 have hw2 : wrap64 (16 + 8 * (n : Int)) = 16 + 8 * (n : Int) := by unfold wrap64; omega
 have hw3 : wrap64 (4 * (n : Int)) = 4 * (n : Int) := by unfold wrap64; omega
 have hw4 : wrap64 (4 * (n : Int) + 1) = 4 * (n : Int) + 1 := by unfold wrap64; omega
 have d1 : decide ((s.size : Int) < L) = false := decide_eq_false g2;have d2 : decide (L < 16 + 8 * (n : Int)) = false := decide_eq_false g3;have a0 : (0 : Int) ≤ L := by omega
 have a1 : L ≤ (s.size : Int) := by omega
 have HN1 := hI hn1;have HN0 := hI hn0;have HLN := hI g3;have HNC := hI hn;have HBO := hI (show s.extract 0 L.toNat = bodyF s by unfold bodyF; rw [← HL.out])
 have HW2 := hI (show segment_words.f (bodyF s) 14 (4 * (n : Int) + 1) = some (wordsL (bodyF s) 14 (4 * n + 1), 0) by
  have h1 := words_told (bodyF s) 14 (4 * n + 1) (by omega);have h2 : (bodyF s).size = L.toNat := by unfold bodyF; rw [ByteArray.size_extract, ← HL.out]; omega
  rw [if_pos (by rw [h2]; omega), show ((4 * n + 1 : Nat) : Int) = 4 * (n : Int) + 1 by omega] at h1;exact h1)
 clear g1 g2 g3 hn0 hn1 hn hdiv1 hdiv2 hq4 hwN;go_wp2_with fail
 rw [HBO.out];refine (segment_words.calls (bodyF s) 14 (4 * (n : Int) + 1) _ 0 v HW2.out).mono ?_;rintro e x2 ⟨y, rfl, hr, hb⟩;obtain ⟨m, hm⟩ : ∃ m, m = 4 * n + 1 := ⟨_, rfl⟩;obtain ⟨Y, hY⟩ : ∃ Y, Y = wordsL (bodyF s) 14 m := ⟨_, rfl⟩;have hYl : Y.length = m := by rw [hY, wordsL_length]
 rw [← hm] at hr;rw [← hY] at hr;obtain ⟨gb, k2, rfl, hgb, hgl, hk2, hkm, hcs⟩ := row_block hr (by rw [hYl, hm]; omega);rw [hYl] at hcs hk2;rw [hYl];have hvz := HUV.out;have huz := HUS.out;have hltz := HLT.out;have hgl2 := (hb.block w.heap.size (by omega)).trans HGV.out;have hlb2 := (hb.block w1.heap.size (by omega)).trans ((HB3.out.block w1.heap.size (by omega)).trans HULB.out);have hnb2 := (hb.cell (p := ⟨u.heap.size, 0, none⟩) (show u.heap.size < v.heap.size by omega)).trans HNB.out;have lc := (blk_cell hlb2 0).trans (show (#[Value.slice (some ⟨ga, 0, none⟩) 7 k1])[0]? = some _ from rfl);have lf := Lib.frozen_of_heap hlb2 0;obtain ⟨x3, hv3⟩ : ∃ x3, x3 = x2.setCell ⟨w1.heap.size, 0, none⟩ (.slice (some ⟨gb, 0, none⟩) m k2) := ⟨_, rfl⟩
 have hB3v : Below w.heap.size w x3 := by
  rw [hv3];exact ((HBU.out.trans (HB3.out.mono HBU.out.size)).trans (hb.mono (by have := (HBU.out.trans (HB3.out.mono HBU.out.size)).size; exact this))).setCell (show w.heap.size ≤ w1.heap.size by omega) _
 have hz3 : x3.heap.size = x2.heap.size := by rw [hv3]; simp
 have hoth : ∀ k, k ≠ w1.heap.size → x3.heap[k]? = x2.heap[k]? := fun k hk => by rw [hv3]; exact Below.heap_setCell x2 _ _ k hk
 have l3 : x3.cell? ⟨w1.heap.size, 0, none⟩ = some (.slice (some ⟨gb, 0, none⟩) m k2) := by rw [hv3]; exact World.cell?_setCell_same _ _ _ lc
 have n3 : x3.cell? ⟨u.heap.size, 0, none⟩ = some (.int .i64 (n : Int)) := (cell_of (hoth u.heap.size (by omega))).trans hnb2;have g3 := (hoth w.heap.size (by omega)).trans hgl2;have HCS := hI (fun j hj => (cell_of (a := ⟨gb, j, none⟩) (hoth gb (by omega))).trans (hcs j hj));have HYE := hI hY;have HM := hI hm;have HBW3 := hI hB3v;have HG3 := hI g3;have HK2 := hI (show m ≤ k2 ∧ k2 ≤ maxLen from ⟨hk2, hkm⟩);have HGB := hI (show gb < x3.heap.size ∧ gb ≠ w.heap.size ∧ w.heap.size < x3.heap.size by have := hb.size; omega);have HNE := hI (show w1.heap.size ≠ w.heap.size ∧ u.heap.size ≠ w.heap.size by omega);have hz105 : noTable = noTable := rfl;clear hr hb hcs hk2 hkm hgb hgl hvz huz hltz hgl2 hlb2 hnb2 hB3v hz3 hoth g3 hY hYl hz105 hm vl v0 v1 v3 c0 c1 c2 c3 c4 f0 f1 f2 f3 f4 vn;go_wp2_with fail
 rw [← hv3];clear hv3 lc lf hw1 hw2 hw3 hw4 hq1 hq2 hq3 hmod1 d1 d2 a0 a1
 have hPart : ∀ (p : Nat), p + n ≤ m → ∀ (q : Int), q = (p : Int) → ∀ W : World, (W.cell? ⟨w1.heap.size, 0, none⟩ = some (.slice (some ⟨gb, 0, none⟩) m k2) ∧ W.cell? ⟨u.heap.size, 0, none⟩ = some (.int .i64 (n : Int))) →
   Calls Tryz.prog 110 #[.int .i64 q, .pointer (some ⟨w1.heap.size, 0, none⟩), .pointer (some ⟨u.heap.size, 0, none⟩)] W fun e w' => e = .returned (.slice (some ⟨gb, p, none⟩) n n) ∧ W = w' := fun p hp q hq W hS => by
  subst hq;exact part_calls w1.heap.size u.heap.size gb m k2 p n W hS.1 hS.2 hp HN0.out HK2.out.1 HK2.out.2
 obtain ⟨p1, hp1⟩ : ∃ p1, p1 = n + 1 := ⟨_, rfl⟩;obtain ⟨p2, hp2⟩ : ∃ p2, p2 = 2 * n + 1 := ⟨_, rfl⟩;obtain ⟨p3, hp3⟩ : ∃ p3, p3 = 3 * n + 1 := ⟨_, rfl⟩;have P0 := hI (hPart 0 (by have := HM.out; omega) 0 rfl);have P1 := hI (hPart p1 (by have := HM.out; omega) ((n : Int) + 1) (by omega));have P2 := hI (hPart p2 (by have := HM.out; omega) (2 * (n : Int) + 1) (by omega));have P3 := hI (hPart p3 (by have := HM.out; omega) (3 * (n : Int) + 1) (by omega));have HP := hI (show p1 = n + 1 ∧ p2 = 2 * n + 1 ∧ p3 = 3 * n + 1 from ⟨hp1, hp2, hp3⟩);clear hp1 hp2 hp3;have k1_ : IntKind.i64.wrap ((n : Int) + 1) = (n : Int) + 1 := by rw [i64_w]; have := HN1.out; unfold wrap64; omega
 have k2_ : IntKind.i64.wrap (2 * (n : Int)) = 2 * (n : Int) := by rw [i64_w]; have := HN1.out; unfold wrap64; omega
 have k3_ : IntKind.i64.wrap (2 * (n : Int) + 1) = 2 * (n : Int) + 1 := by rw [i64_w]; have := HN1.out; unfold wrap64; omega
 have k4_ : IntKind.i64.wrap (3 * (n : Int)) = 3 * (n : Int) := by rw [i64_w]; have := HN1.out; unfold wrap64; omega
 have k5_ : IntKind.i64.wrap (3 * (n : Int) + 1) = 3 * (n : Int) + 1 := by rw [i64_w]; have := HN1.out; unfold wrap64; omega
 have j1_ : wrap64 ((n : Int) + 1) = (n : Int) + 1 := by have := HN1.out; unfold wrap64; omega
 have j2_ : wrap64 (2 * (n : Int)) = 2 * (n : Int) := by have := HN1.out; unfold wrap64; omega
 have j3_ : wrap64 (2 * (n : Int) + 1) = 2 * (n : Int) + 1 := by have := HN1.out; unfold wrap64; omega
 have j4_ : wrap64 (3 * (n : Int)) = 3 * (n : Int) := by have := HN1.out; unfold wrap64; omega
 have j5_ : wrap64 (3 * (n : Int) + 1) = 3 * (n : Int) + 1 := by have := HN1.out; unfold wrap64; omega
 have HG3d := hI (show x3.drew.heap[w.heap.size]? = some (.cells #[.string ⟨#[]⟩, .slice none 0 0, .slice none 0 0, .slice none 0 0, .slice none 0 0] 105 (0, 0)) from HG3.out);have l3d : x3.drew.cell? ⟨w1.heap.size, 0, none⟩ = some (.slice (some ⟨gb, 0, none⟩) m k2) := l3;have n3d : x3.drew.cell? ⟨u.heap.size, 0, none⟩ = some (.int .i64 (n : Int)) := n3;clear hPart l3 n3;refine wp_mono (Q := Exit.then ?_ (fun _ _ _ => False)) ?_ ?_;rotate_left 2
 ·
  intro e a w h;cases e with
  | normal => exact h
  | _ => exact (show False from h).elim
 refine bg_ 21 (fun W => W.cell? ⟨w1.heap.size, 0, none⟩ = some (.slice (some ⟨gb, 0, none⟩) m k2) ∧ W.cell? ⟨u.heap.size, 0, none⟩ = some (.int .i64 (n : Int))) ⟨l3d, n3d⟩ (fun hHeld => ?_);obtain ⟨xd, hxd⟩ : ∃ xd, xd = x3.drew := ⟨_, rfl⟩;rw [← hxd] at hHeld HG3d ⊢;have HXB := hI (show Below x3.heap.size x3 xd by rw [hxd]; exact below_drew1 (Below.refl _ _));clear l3d n3d hxd;refine pS_ 0 67 ?_;refine pS_ 1 68 ?_;refine pS_ 3 70 ?_;refine pS_ 7 74 ?_;refine pS_ 12 79 ?_;refine pS_ 18 85 ?_;refine tS_ 4 71 hHeld ?_;refine tS_ 8 75 hHeld ?_;refine tS_ 13 80 hHeld ?_;refine pS_ 5 72 ?_;refine pS_ 9 76 ?_;refine pS_ 10 77 ?_;refine pS_ 14 81 ?_;refine pS_ 15 82 ?_;refine oS_ 2 69 (fun K hK => ?_);go_simp
 go_at_call 110
 with_reducible refine (P0.out _ hHeld).mono ?_
 rintro e w' ⟨rfl, rfl⟩;dsimp only
 refine hK.out _ _ hHeld (fun _ => ?_);clear hK K;refine oS_ 6 73 (fun K hK => ?_);go_simp
 go_at_call 110
 with_reducible refine (P1.out _ hHeld).mono ?_
 rintro e w' ⟨rfl, rfl⟩;dsimp only
 refine hK.out _ _ hHeld (fun _ => ?_);clear hK K;refine oS_ 11 78 (fun K hK => ?_);go_simp
 go_at_call 110
 with_reducible refine (P2.out _ hHeld).mono ?_
 rintro e w' ⟨rfl, rfl⟩;dsimp only
 refine hK.out _ _ hHeld (fun _ => ?_);clear hK K;refine oS_ 16 83 (fun K hK => ?_);go_simp
 go_at_call 110
 with_reducible refine (P3.out _ hHeld).mono ?_
 rintro e w' ⟨rfl, rfl⟩;dsimp only
 refine hK.out _ _ hHeld (fun _ => ?_);clear hK K;refine pS_ 17 84 ?_;refine oN_ 19 (fun K hK => ?_);refine skip_ (w1 := put5 xd w.heap.size (.string (bodyF s)) (.slice (some ⟨gb, 0, none⟩) n n) (.slice (some ⟨gb, p1, none⟩) n n) (.slice (some ⟨gb, p2, none⟩) n n) (.slice (some ⟨gb, p3, none⟩) n n)) (by rfl) rfl ?_ ?_
 · exact store5_run (p := 2) (v := 84) _ _ _ _ _ _ _ _ _ _ _ _ _ rfl rfl rfl HG3d.out
 refine hK.out _ _ ⟨keepP hHeld.1 HNE.out.1, keepP hHeld.2 HNE.out.2⟩ (fun _ => ?_);clear hK K;refine pS_ 20 3 ?_;refine dS_ ?_;have hpb : Below w.heap.size w xd := HBW3.out.trans (HXB.out.mono HBW3.out.size);have HPB := hI (put5_below hpb (Nat.le_refl _) (.string (bodyF s)) (.slice (some ⟨gb, 0, none⟩) n n) (.slice (some ⟨gb, p1, none⟩) n n) (.slice (some ⟨gb, p2, none⟩) n n) (.slice (some ⟨gb, p3, none⟩) n n));have HPG := hI (put5_block HG3d.out (.string (bodyF s)) (.slice (some ⟨gb, 0, none⟩) n n) (.slice (some ⟨gb, p1, none⟩) n n) (.slice (some ⟨gb, p2, none⟩) n n) (.slice (some ⟨gb, p3, none⟩) n n));have HPC := hI (fun j (hj : j < m) => (cell_of (a := ⟨gb, j, none⟩) (put5_other xd w.heap.size (.string (bodyF s)) (.slice (some ⟨gb, 0, none⟩) n n) (.slice (some ⟨gb, p1, none⟩) n n) (.slice (some ⟨gb, p2, none⟩) n n) (.slice (some ⟨gb, p3, none⟩) n n) gb HGB.out.2.1)).trans ((HXB.out.cell (p := ⟨gb, j, none⟩) HGB.out.1).trans (HCS.out j hj)));obtain ⟨wf, hwf⟩ : ∃ wf, wf = put5 xd w.heap.size (.string (bodyF s)) (.slice (some ⟨gb, 0, none⟩) n n) (.slice (some ⟨gb, p1, none⟩) n n) (.slice (some ⟨gb, p2, none⟩) n n) (.slice (some ⟨gb, p3, none⟩) n n) := ⟨_, rfl⟩;rw [← hwf] at HPB HPG HPC ⊢;clear hwf hpb k1_ k2_ k3_ k4_ k5_ j1_ j2_ j3_ j4_ j5_;go_wp2;refine bodyPost_ret (v := .tuple #[tableV (bodyF s) (some ⟨gb, 0, none⟩) (some ⟨gb, p1, none⟩) (some ⟨gb, p2, none⟩) (some ⟨gb, p3, none⟩) n, .int .i64 0]) (results_read _ w.heap.size _ _ _ _ _ _ _ _ _ _ _ _ _ _ _ rfl rfl HPG.out) rfl ?_;have hp := HP.out;have hm := HM.out;unfold ReadOk;rw [← HNC.out];refine ⟨_, _, _, _, rfl, HPB.out, ?_, ?_, ?_, ?_⟩
 · exact part_C HPC.out HYE.out (p := 0) (by omega) (by have := HN1.out; omega)
 ·
  have := part_C HPC.out HYE.out (p := p1) (n := n) (by omega) (by have := HN1.out; omega);rwa [show 14 + 2 * p1 = 16 + 2 * n by omega] at this
 ·
  have := part_C HPC.out HYE.out (p := p2) (n := n) (by omega) (by have := HN1.out; omega);rwa [show 14 + 2 * p2 = 16 + 4 * n by omega] at this
 have := part_C HPC.out HYE.out (p := p3) (n := n) (by omega) (by have := HN1.out; omega);rwa [show 14 + 2 * p3 = 16 + 6 * n by omega] at this
attribute [local go_sem] max2_int min2_int max_two min_two max_three min_three max_four min_four
def segment_table_right.l0 : Nat → Int → List Int → Int → Int → ByteArray → List Int → List Int → List Int → List Int → Option (Bool)
 | 0, _, _, _, _, _, _, _, _, _ => none
 | k + 1, x3, x7, x8, x9, x192000, x192001, x192002, x192003, x192004 => if x9 < x8 then (if 0 ≤ x9 then (if x9 < (x7.length : Int) then (if x9 < (x192002.length : Int) then (if (rd x192002 x9) > (rd x7 x9) then (some false) else (if (rd x192002 x9) ≤ x3 then (some false) else (if x9 < (x192004.length : Int) then (if (Int.tmod (rd x192004 x9) 2) = 0 then (segment_table_right.l0 k (rd x7 x9) x7 x8 (wrap64 (x9 + 1)) x192000 x192001 x192002 x192003 x192004) else (some false)) else (none)))) else (none)) else (none)) else (none)) else (some (x3 == 65535))
def segment_table_right.f (k : Nat) (a0_0 : ByteArray) (l0_1 : List Int) (l0_2 : List Int) (l0_3 : List Int) (l0_4 : List Int) : Option (Bool) := segment_table_right.l0 k (-1) l0_1 (l0_1.length : Int) 0 a0_0 l0_1 l0_2 l0_3 l0_4
theorem segment_table_right.calls (k : Nat) (a0_0 : ByteArray) (A0_1 : Option Addr) (c0_1 : Nat) (l0_1 : List Int) (A0_2 : Option Addr) (c0_2 : Nat) (l0_2 : List Int) (A0_3 : Option Addr) (c0_3 : Nat) (l0_3 : List Int) (A0_4 : Option Addr) (c0_4 : Nat) (l0_4 : List Int) (r : Bool) (w : World) (hr0_1 : Kd.C (Kd.int .i64) w A0_1 l0_1.length l0_1) (hc0_1 : l0_1.length ≤ c0_1) (hr0_2 : Kd.C (Kd.int .i64) w A0_2 l0_2.length l0_2) (hc0_2 : l0_2.length ≤ c0_2) (hr0_3 : Kd.C (Kd.int .i64) w A0_3 l0_3.length l0_3) (hc0_3 : l0_3.length ≤ c0_3) (hr0_4 : Kd.C (Kd.int .i64) w A0_4 l0_4.length l0_4) (hc0_4 : l0_4.length ≤ c0_4) (h : segment_table_right.f k a0_0 l0_1 l0_2 l0_3 l0_4 = some r) :
  Calls Tryz.prog 80 #[.agg #[.string a0_0, .slice A0_1 l0_1.length c0_1, .slice A0_2 l0_2.length c0_2, .slice A0_3 l0_3.length c0_3, .slice A0_4 l0_4.length c0_4]] w fun e w' => e = .returned (.bool r) ∧ Below w.heap.size w w' := by
 have hu105 := Tryz.underlying105;have HR0_1 := aK hr0_1;have HC0_1 := aK hc0_1;clear hr0_1 hc0_1;have HR0_2 := aK hr0_2;have HC0_2 := aK hc0_2;clear hr0_2 hc0_2;have HR0_3 := aK hr0_3;have HC0_3 := aK hc0_3;clear hr0_3 hc0_3;have HR0_4 := aK hr0_4;have HC0_4 := aK hc0_4;clear hr0_4 hc0_4;have HB := aK (Below.refl w.heap.size w);have H : (segment_table_right.l0 k (-1) l0_1 (l0_1.length : Int) 0 a0_0 l0_1 l0_2 l0_3 l0_4) = some r := h;clear h;have H' := aK H;clear H;go_enter Tryz.func80, Tryz.ntmps80;go_wp2_with (first | ((with_reducible refine gate_dst (N := 1) rfl ?_); refine box5 1 105 (.string a0_0) (.slice A0_1 l0_1.length c0_1) (.slice A0_2 l0_2.length c0_2) (.slice A0_3 l0_3.length c0_3) (.slice A0_4 l0_4.length c0_4) ?_; clear HB; intro gb191 w2 BK191 GW191 GE191 HB hcz3_0 hcz3_1 hcz3_2 hcz3_3 hcz3_4 hfz3_0 hfz3_1 hfz3_2 hfz3_3 hfz3_4))
 go_loopg [3, 9] k (fun kq v3 v9 w' => ∃ (x3_1 : Int) (x9_1 : Int), v3 = .int .i64 x3_1 ∧ v9 = .int .i64 x9_1 ∧ Aside0 (segment_table_right.l0 kq x3_1 l0_1 (l0_1.length : Int) x9_1 a0_0 l0_1 l0_2 l0_3 l0_4 = some r) ∧ Aside0 (kq ≤ k) ∧ Aside0 (w'.heap[gb191]? = some (.cells #[.string a0_0, (.slice A0_1 l0_1.length c0_1), (.slice A0_2 l0_2.length c0_2), (.slice A0_3 l0_3.length c0_3), (.slice A0_4 l0_4.length c0_4)] 105 (0, 0))) ∧ Aside0 (Below w.heap.size w w'))
 case atStart => exact ⟨((-1)), (0), gA, gA, H', ⟨Nat.le_refl _⟩, ⟨by (with_reducible repeat (first | refine blk_drewN ?_ _ | refine blk_drew ?_ | refine blk_alloc ?_ _)); exact BK191.out⟩, ⟨bG GE191.out⟩⟩
 case round =>
  clear H';try clear hcz3_0 hcz3_1 hcz3_2 hcz3_3 hcz3_4 hfz3_0 hfz3_1 hfz3_2 hfz3_3 hfz3_4
  obtain ⟨x3_1, x9_1, rfl, rfl, HA, HK1, BK191, HB⟩ := hrel;cases gk with
  | zero => exact absurd HA.out (by simp [segment_table_right.l0])
  | succ k1 =>
   have H := HA.out;clear HA;simp only [segment_table_right.l0] at H;replace H := qL H;rcases H with ⟨c4b0, H⟩ | ⟨c4b0, H⟩
   ·
    replace H := nL H;obtain ⟨c5b0, H⟩ := H;replace H := nL H;obtain ⟨c6b0, H⟩ := H;replace H := nL H;obtain ⟨c7b0, H⟩ := H;replace H := qM H;rcases H with ⟨c8b0, H⟩ | ⟨c8b0, H⟩
    ·
     obtain rfl := Option.some.inj H;obtain ⟨p192, q192, ad192, e192, hx192_0⟩ := aT (Kd.at_int HR0_1.out x9_1);cases e192
     replace hx192_0 := kM HB.out hx192_0;obtain ⟨hcz9_0, hcz9_1, hcz9_2, hcz9_3, hcz9_4, hfz9_0, hfz9_1, hfz9_2, hfz9_3, hfz9_4⟩ := blk5 BK191.out;obtain ⟨p193, q193, ad193, e193, hx193_0⟩ := aT (Kd.at_int HR0_2.out x9_1);cases e193
     replace hx193_0 := kM HB.out hx193_0;go_wp2;go_ret;exact ⟨eA, bG GE191.out⟩
    replace H := qL H;rcases H with ⟨c10b0, H⟩ | ⟨c10b0, H⟩
    ·
     obtain rfl := Option.some.inj H;obtain ⟨p192, q192, ad192, e192, hx192_0⟩ := aT (Kd.at_int HR0_1.out x9_1);cases e192
     replace hx192_0 := kM HB.out hx192_0;obtain ⟨hcz11_0, hcz11_1, hcz11_2, hcz11_3, hcz11_4, hfz11_0, hfz11_1, hfz11_2, hfz11_3, hfz11_4⟩ := blk5 BK191.out;obtain ⟨p193, q193, ad193, e193, hx193_0⟩ := aT (Kd.at_int HR0_2.out x9_1);cases e193
     replace hx193_0 := kM HB.out hx193_0;obtain ⟨p194, q194, ad194, e194, hx194_0⟩ := aT (Kd.at_int HR0_2.out x9_1);obtain rfl : ad193 = ad194 := (by injection e194);replace hx194_0 := kM HB.out hx194_0;go_wp2;go_ret;exact ⟨eA, bG GE191.out⟩
    replace H := nL H;obtain ⟨c12b0, H⟩ := H;replace H := qF H;rcases H with ⟨c13b0, c13b1, H⟩ | ⟨c13b0, c13b1, H⟩
    ·
     have H' := aK H;clear H;obtain ⟨p192, q192, ad192, e192, hx192_0⟩ := aT (Kd.at_int HR0_1.out x9_1);cases e192
     replace hx192_0 := kM HB.out hx192_0;obtain ⟨hcz14_0, hcz14_1, hcz14_2, hcz14_3, hcz14_4, hfz14_0, hfz14_1, hfz14_2, hfz14_3, hfz14_4⟩ := blk5 BK191.out;obtain ⟨p193, q193, ad193, e193, hx193_0⟩ := aT (Kd.at_int HR0_2.out x9_1);cases e193
     replace hx193_0 := kM HB.out hx193_0;obtain ⟨p194, q194, ad194, e194, hx194_0⟩ := aT (Kd.at_int HR0_2.out x9_1);obtain rfl : ad193 = ad194 := (by injection e194);replace hx194_0 := kM HB.out hx194_0;obtain ⟨p195, q195, ad195, e195, hx195_0⟩ := aT (Kd.at_int HR0_4.out x9_1);cases e195
     replace hx195_0 := kM HB.out hx195_0;go_wp2;go_roundg k1
     case measure => exact oK
     case rel => exact ⟨(rd l0_1 x9_1), (wrap64 (x9_1 + 1)), gA, gA, H', ⟨oK⟩, ⟨by (with_reducible repeat (first | refine blk_drewN ?_ _ | refine blk_drew ?_ | refine blk_alloc ?_ _)); exact BK191.out⟩, ⟨bG GE191.out⟩⟩
    obtain rfl := Option.some.inj H;obtain ⟨p192, q192, ad192, e192, hx192_0⟩ := aT (Kd.at_int HR0_1.out x9_1);cases e192
    replace hx192_0 := kM HB.out hx192_0;obtain ⟨hcz15_0, hcz15_1, hcz15_2, hcz15_3, hcz15_4, hfz15_0, hfz15_1, hfz15_2, hfz15_3, hfz15_4⟩ := blk5 BK191.out;obtain ⟨p193, q193, ad193, e193, hx193_0⟩ := aT (Kd.at_int HR0_2.out x9_1);cases e193
    replace hx193_0 := kM HB.out hx193_0;obtain ⟨p194, q194, ad194, e194, hx194_0⟩ := aT (Kd.at_int HR0_2.out x9_1);obtain rfl : ad193 = ad194 := (by injection e194);replace hx194_0 := kM HB.out hx194_0;obtain ⟨p195, q195, ad195, e195, hx195_0⟩ := aT (Kd.at_int HR0_4.out x9_1);cases e195
    replace hx195_0 := kM HB.out hx195_0;go_wp2;go_ret;exact ⟨eA, bG GE191.out⟩
   obtain rfl := Option.some.inj H;go_wp2;go_ret;exact ⟨eA, bG GE191.out⟩
end Go.Proofs.YtejdflndgnpkcaaGreat.P
end
