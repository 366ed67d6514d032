/- Words, contracts and plain facts of the proof. Each says its own condition. -/
import Derived.Test.YtejdflndgnpkcaaGreatZCmapDoesx
import Derived.Test.YtejdflndgnpkcaaGreatZCmapDoesy
import Derived.Test.YtejdflndgnpkcaaGreatZCmapDoesab
import Derived.Test.YtejdflndgnpkcaaGreatZCmapDoese
set_option linter.unusedVariables false
set_option maxRecDepth 100000
set_option linter.unusedSimpArgs false
set_option maxHeartbeats 16000000
section
namespace Go.Proofs.YtejdflndgnpkcaaGreat.P
open Go.RowKit PW PL PM
def readM (s : ByteArray) : List S61 × Int :=
 if s.size < 2 then ([], 4)
 else if w2 s 0 = 0 ∨ w2 s 0 = 6 then getC s
 else if w2 s 0 = 4 then getS s
 else if w2 s 0 = 12 ∨ w2 s 0 = 13 then getG s
 else ([], 5)
theorem blk_lt' {w : World} {b : Nat} {o : Obj} (h : w.heap[b]? = some o) : b < w.heap.size := (Array.getElem?_eq_some_iff.1 h).1
theorem store_at (W : World) (B i : Nat) (cs : Array Value) (e : TypeId) (f : FuncId) (caps : Array Value) (h : W.heap[B]? = some (.cells cs e (0, 0))) (hi : cs[i]? = some .nilFunc) : (store ⟨B, i, none⟩ (.func (.func f) #[] caps)).run Tryz.prog W = .ok () (W.setCell ⟨B, i, none⟩ (.func (.func f) #[] caps)) := by
 rw [run_store _ _ _ _ _ rfl];rw [(blk_cell h i).trans hi];rw [Lib.frozen_of_heap h i];rfl
theorem put_fmt (W : World) (B g p : Nat) (caps : Array Value) (h : W.heap[B]? = some (.cells #[.nilFunc, .nilFunc, .int .i64 0, .int .i64 0] 49 (0, 0))) :
  ∃ V0 V1, (store ⟨B, 0, none⟩ (.func (.func g) #[] #[])).run Tryz.prog W = .ok () V0 ∧ (store ⟨B, 1, none⟩ (.func (.func p) #[] caps)).run Tryz.prog V0 = .ok () V1 ∧ V1.heap[B]? = some (.cells #[.func (.func g) #[] #[], .func (.func p) #[] caps, .int .i64 0, .int .i64 0] 49 (0, 0)) ∧
   (∀ (n : Nat) (U : World), n ≤ B → Below n U W → Below n U V1) ∧ (∀ b, b ≠ B → V1.heap[b]? = W.heap[b]?) := by
 have h1 : (W.setCell ⟨B, 0, none⟩ (.func (.func g) #[] #[])).heap[B]? = some (.cells #[.func (.func g) #[] #[], .nilFunc, .int .i64 0, .int .i64 0] 49 (0, 0)) := by
  have := blk_set h 0 (.func (.func g) #[] #[]);simpa using this
 have h2 : ((W.setCell ⟨B, 0, none⟩ (.func (.func g) #[] #[])).setCell ⟨B, 1, none⟩ (.func (.func p) #[] caps)).heap[B]? = some (.cells #[.func (.func g) #[] #[], .func (.func p) #[] caps, .int .i64 0, .int .i64 0] 49 (0, 0)) := by
  have := blk_set h1 1 (.func (.func p) #[] caps);simpa using this
 exact ⟨_, _, store_at W B 0 _ _ g #[] h rfl, store_at _ B 1 _ _ p caps h1 rfl, h2, fun n U hn hb => (hb.setCell hn _).setCell hn _, fun b hb => (Below.heap_setCell _ _ _ b hb).trans (Below.heap_setCell _ _ _ b hb)⟩
theorem get_one (s : ByteArray) (p : Nat) : getN s (p : Int) [2] = if p + 2 ≤ s.size then ([w2 s p], 0) else ([], 4) := by
 have h := get_rep s (s := 2) (by decide) p 1;have e : repN [2] 1 = [2] := rfl;have e2 : (2 : Int).natAbs = 2 := rfl;rw [e, e2] at h;refine Eq.trans h ?_;by_cases hc : p + 2 ≤ s.size
 ·
  rw [if_pos hc, if_pos (by omega), show List.range 1 = [0] from by decide];rfl
 rw [if_neg hc, if_neg (by omega)]
theorem cread_short (s : ByteArray) (w : World) (h : s.size < 2) : Calls Tryz.prog 7 #[.string s] w fun e w' => ∃ v, e = .returned (.tuple #[v, .int .i64 4]) ∧ Kd.R k61 61 w' w.heap.size (fun _ => True) v ([] : List S61) ∧ Below w.heap.size w w' := by
 have hg : bin_Get.f s 0 [2] = some ([], 4) := by
  unfold bin_Get.f;rw [if_pos (by decide)];have := get_one s 0;rw [if_neg (by omega)] at this;exact congrArg some this
 have HG := hI hg;clear hg h;go_enter Tryz.func7, Tryz.ntmps7;go_wp2_with fail
 have D1 := lit_C w [2] (by decide);refine (bin_Get.calls s 0 _ 1 [2] [] 4 _ D1 (Nat.le_refl _) HG.out).mono ?_;rintro e w1 ⟨v, rfl, hr, hb⟩;have HB := hI (((Below.refl w.heap.size w).alloc (Nat.le_refl _) (.cells (([2] : List Int).map (Value.int .i64)).toArray 3)).trans (hb.mono (by simp)));clear hr hb D1 HG;go_wp2;go_ret2;exact ⟨_, rfl, Kd.R_nil _ _ _ _ _, HB.out⟩
theorem cread_walk (s : ByteArray) (w : World) (h : 2 ≤ s.size) (i g p : Nat) (caps : Nat → Nat → Array Value) (a b : Int)
    (hn : ∀ m1 m2, fmtOf (w2 s 0) m1 m2 = some (i, .agg #[.func (.func g) #[] #[], .func (.func p) #[] (caps m1 m2), .int .i64 a, .int .i64 b])) (he : EntersK g) (L : List S61) (e : Int)
    (hget : ∀ (W : World), Calls Tryz.prog g #[.string s] W fun x w' => ∃ v, x = .returned (.tuple #[v, .int .i64 e]) ∧ Kd.R k61 61 w' W.heap.size (fun _ => True) v L ∧ Below W.heap.size W w') :
    Calls Tryz.prog 7 #[.string s] w fun x w' => ∃ v, x = .returned (.tuple #[v, .int .i64 e]) ∧ Kd.R k61 61 w' w.heap.size (fun _ => True) v L ∧ Below w.heap.size w w' := by
  have hz := (zero_of_info (P := Tryz.prog) (t := 49) (v := .agg #[.nilFunc, .nilFunc, .int .i64 0, .int .i64 0]) (n := 4) (by kernel_rfl)).1;have hu := Tryz.underlying49;have hk := Tryz.underlying47;obtain ⟨f, hf⟩ : ∃ f, f = w2 s 0 := ⟨_, rfl⟩;rw [← hf] at hn
  have hg : bin_Get.f s 0 [2] = some ([f], 0) := by
    unfold bin_Get.f;rw [if_pos (by decide), hf];have := get_one s 0;rw [if_pos (by omega)] at this;exact congrArg some this
  have HG := hI hg;have HN := hI hn;have HP := hI hget;unfold EntersK at he;clear hg h hf hn hget;go_enter Tryz.func7, Tryz.ntmps7;go_wp2_with fail
  have D1 := lit_C w [2] (by decide);refine (bin_Get.calls s 0 _ 1 [2] [f] 0 _ D1 (Nat.le_refl _) HG.out).mono ?_;rintro x w1 ⟨v, rfl, hr, hb⟩;have hbw : Below w.heap.size w w1 := ((Below.refl w.heap.size w).alloc (Nat.le_refl _) (.cells (([2] : List Int).map (Value.int .i64)).toArray 3)).trans (hb.mono (by simp));have HB := hI hbw;obtain ⟨ga, k1, rfl, hga, hgl, hk1, hk2, hcs⟩ := row_block hr (by simp);have hlen : ([f] : List Int).length = 1 := rfl;rw [hlen] at hk1 hcs ⊢;have x0 : w1.cell? ⟨ga, 0, none⟩ = some (.int .i64 f) := (hcs 0 (by decide)).trans rfl;have HGL := hI hgl;clear hr hb hbw D1 hga hk2 hcs hlen HG;go_wp2_with fail
  go_region_held3 (fun u => u.cell? ⟨ga, 0, none⟩ = some (.int .i64 f)) (first | exact x0 | exact hx | exact hvv | exact cell_al _ (by assumption) | go_keep) (first
    | (go_at_call 23
       refine (formats_calls (World.drew w1)).mono ?_;rintro x W ⟨hb, bm, m1, m2, hbb, rfl, hF⟩;have hx : W.cell? ⟨ga, 0, none⟩ = some (.int .i64 f) := (hb.cell HGL.out).trans x0;have hl : (Instr.lookup 51 (.map (some bm)) (.int .i64 f) true).run Tryz.prog W = .ok (.tuple #[.agg #[.func (.func g) #[] #[], .func (.func p) #[] (caps m1 m2), .int .i64 a, .int .i64 b], .bool true]) W := look_run W bm _ _ f hF.m _ ((find_fmt f m1 m2).trans (congrArg some (HN.out m1 m2)));have hl2 : (Instr.lookup 51 (.map (some bm)) (.int .i64 f) true).run Tryz.prog (W.alloc (.cells #[.nilFunc, .nilFunc, .int .i64 0, .int .i64 0] 49)) = .ok (.tuple #[.agg #[.func (.func g) #[] #[], .func (.func p) #[] (caps m1 m2), .int .i64 a, .int .i64 b], .bool true]) (W.alloc (.cells #[.nilFunc, .nilFunc, .int .i64 0, .int .i64 0] 49)) := look_run _ bm _ _ f ((heap_alloc_old W _ (blk_lt' hF.m)).trans hF.m) _ ((find_fmt f m1 m2).trans (congrArg some (HN.out m1 m2)));have h0 := store_f0 W g #[] .nilFunc (.int .i64 0) (.int .i64 0) 49;have h1 := store_f1 W p (caps m1 m2) (.func (.func g) #[] #[]) (.int .i64 0) (.int .i64 0) 49;clear hbb hF)
    | (go_at_call 23
       refine (formats_calls ((World.drew w1).alloc (.cells #[.nilFunc, .nilFunc, .int .i64 0, .int .i64 0] 49))).mono ?_;rintro x W ⟨hb, bm, m1, m2, hbb, rfl, hF⟩;have hx : W.cell? ⟨ga, 0, none⟩ = some (.int .i64 f) := (hb.cell (Nat.lt_trans HGL.out (by simp))).trans (cell_al _ x0);have hl : (Instr.lookup 51 (.map (some bm)) (.int .i64 f) true).run Tryz.prog W = .ok (.tuple #[.agg #[.func (.func g) #[] #[], .func (.func p) #[] (caps m1 m2), .int .i64 a, .int .i64 b], .bool true]) W := look_run W bm _ _ f hF.m _ ((find_fmt f m1 m2).trans (congrArg some (HN.out m1 m2)));have hc : W.heap[w1.heap.size]? = some (.cells #[.nilFunc, .nilFunc, .int .i64 0, .int .i64 0] 49 (0, 0)) := (hb.block _ (by simp)).trans (heap_alloc_new (World.drew w1) _);obtain ⟨V0, V1, h0, h1, hV, hVB, hVO⟩ := put_fmt W w1.heap.size g p (caps m1 m2) hc;have y2 : V1.cell? ⟨w1.heap.size, 2, none⟩ = some (.int .i64 0) := (blk_cell hV 2).trans rfl;have y3 : V1.cell? ⟨w1.heap.size, 3, none⟩ = some (.int .i64 0) := (blk_cell hV 3).trans rfl;have z2 := Lib.frozen_of_heap hV 2;have z3 := Lib.frozen_of_heap hV 3;have hne : ga ≠ w1.heap.size := Nat.ne_of_lt HGL.out;have hvv : ((V1.setCell ⟨w1.heap.size, 2, none⟩ (.int .i64 a)).setCell ⟨w1.heap.size, 3, none⟩ (.int .i64 b)).cell? ⟨ga, 0, none⟩ = some (.int .i64 f) := (World.cell?_of_block ((Below.heap_setCell _ _ _ ga hne).trans ((Below.heap_setCell _ _ _ ga hne).trans (hVO ga hne)))).trans hx;clear hbb hF hc hne hVO))
  · have hcell : (W.alloc (.cells #[.func (.func g) #[] #[], .func (.func p) #[] (caps m1 m2), .int .i64 a, .int .i64 b] 49)).heap[W.heap.size]? = some (.cells #[.func (.func g) #[] #[], .func (.func p) #[] (caps m1 m2), .int .i64 a, .int .i64 b] 49 (0, 0)) := heap_alloc_new _ _
    have hbw : Below w.heap.size w (W.alloc (.cells #[.func (.func g) #[] #[], .func (.func p) #[] (caps m1 m2), .int .i64 a, .int .i64 b] 49)) := (below_then (Below.drew HB.out) HB.out.size hb).alloc (below_then (Below.drew HB.out) HB.out.size hb).size _;obtain ⟨U, hU⟩ : ∃ U, U = W.alloc (.cells #[.func (.func g) #[] #[], .func (.func p) #[] (caps m1 m2), .int .i64 a, .int .i64 b] 49) := ⟨_, rfl⟩;obtain ⟨F, hF⟩ : ∃ F, F = W.heap.size := ⟨_, rfl⟩;rw [← hU, ← hF] at hcell ⊢;rw [← hU] at hbw;have q0 : U.cell? ⟨F, 0, none⟩ = some (.func (.func g) #[] #[]) := (blk_cell hcell 0).trans rfl;have HBW := hI hbw
    (try clear hl2)
    (try clear hvv)
    (try clear y2 y3 z2 z3)
    (try clear hVB)
    clear hl h0 h1 hx hb hcell hbw hU hF x0
    (try clear hV)
    go_wp2_with fail
    refine (HP.out U).mono ?_;rintro x w9 ⟨v, rfl, hr, hb⟩;have HR := hI hr;have HB9 := hI hb;clear hr hb;go_wp2;go_ret2;exact ⟨_, rfl, Kd.R_lower HR.out HBW.out.size, below_then HBW.out HBW.out.size HB9.out⟩
  · have hcell : (W.alloc (.cells #[.func (.func g) #[] #[], .func (.func p) #[] (caps m1 m2), .int .i64 a, .int .i64 b] 49)).heap[W.heap.size]? = some (.cells #[.func (.func g) #[] #[], .func (.func p) #[] (caps m1 m2), .int .i64 a, .int .i64 b] 49 (0, 0)) := heap_alloc_new _ _
    have hbw : Below w.heap.size w (W.alloc (.cells #[.func (.func g) #[] #[], .func (.func p) #[] (caps m1 m2), .int .i64 a, .int .i64 b] 49)) := (below_then (Below.drew HB.out) HB.out.size hb).alloc (below_then (Below.drew HB.out) HB.out.size hb).size _;obtain ⟨U, hU⟩ : ∃ U, U = W.alloc (.cells #[.func (.func g) #[] #[], .func (.func p) #[] (caps m1 m2), .int .i64 a, .int .i64 b] 49) := ⟨_, rfl⟩;obtain ⟨F, hF⟩ : ∃ F, F = W.heap.size := ⟨_, rfl⟩;rw [← hU, ← hF] at hcell ⊢;rw [← hU] at hbw;have q0 : U.cell? ⟨F, 0, none⟩ = some (.func (.func g) #[] #[]) := (blk_cell hcell 0).trans rfl;have HBW := hI hbw
    (try clear hl2)
    (try clear hvv)
    (try clear y2 y3 z2 z3)
    (try clear hVB)
    clear hl h0 h1 hx hb hcell hbw hU hF x0
    (try clear hV)
    go_wp2_with fail
    refine (HP.out U).mono ?_;rintro x w9 ⟨v, rfl, hr, hb⟩;have HR := hI hr;have HB9 := hI hb;clear hr hb;go_wp2;go_ret2;exact ⟨_, rfl, Kd.R_lower HR.out HBW.out.size, below_then HBW.out HBW.out.size HB9.out⟩
  have hcell : ((V1.setCell ⟨w1.heap.size, 2, none⟩ (.int .i64 a)).setCell ⟨w1.heap.size, 3, none⟩ (.int .i64 b)).heap[w1.heap.size]? = some (.cells #[.func (.func g) #[] #[], .func (.func p) #[] (caps m1 m2), .int .i64 a, .int .i64 b] 49 (0, 0)) := by
    have := blk_set (blk_set hV 2 (.int .i64 a)) 3 (.int .i64 b);simpa using this
  have hbw : Below w.heap.size w ((V1.setCell ⟨w1.heap.size, 2, none⟩ (.int .i64 a)).setCell ⟨w1.heap.size, 3, none⟩ (.int .i64 b)) := ((hVB w.heap.size w HB.out.size (below_then ((Below.drew HB.out).alloc HB.out.size _) ((Below.drew HB.out).alloc HB.out.size _).size hb)).setCell HB.out.size _).setCell HB.out.size _;obtain ⟨U, hU⟩ : ∃ U, U = ((V1.setCell ⟨w1.heap.size, 2, none⟩ (.int .i64 a)).setCell ⟨w1.heap.size, 3, none⟩ (.int .i64 b)) := ⟨_, rfl⟩;obtain ⟨F, hF⟩ : ∃ F, F = w1.heap.size := ⟨_, rfl⟩;rw [← hU, ← hF] at hcell ⊢;rw [← hU] at hbw;have q0 : U.cell? ⟨F, 0, none⟩ = some (.func (.func g) #[] #[]) := (blk_cell hcell 0).trans rfl;have HBW := hI hbw
  (try clear hl2)
  (try clear hvv)
  (try clear y2 y3 z2 z3)
  (try clear hVB)
  clear hl h0 h1 hx hb hcell hbw hU hF x0
  (try clear hV)
  go_wp2_with fail
  refine (HP.out U).mono ?_;rintro x w9 ⟨v, rfl, hr, hb⟩;have HR := hI hr;have HB9 := hI hb;clear hr hb;go_wp2;go_ret2;exact ⟨_, rfl, Kd.R_lower HR.out HBW.out.size, below_then HBW.out HBW.out.size HB9.out⟩
theorem store_nil (W : World) (B i : Nat) (cs : Array Value) (e : TypeId) (h : W.heap[B]? = some (.cells cs e (0, 0))) (hi : cs[i]? = some .nilFunc) : (store ⟨B, i, none⟩ .nilFunc).run Tryz.prog W = .ok () (W.setCell ⟨B, i, none⟩ .nilFunc) := by
 rw [run_store _ _ _ _ _ rfl];rw [(blk_cell h i).trans hi];rw [Lib.frozen_of_heap h i];rfl
theorem put_nil (W : World) (B : Nat) (h : W.heap[B]? = some (.cells #[.nilFunc, .nilFunc, .int .i64 0, .int .i64 0] 49 (0, 0))) :
  ∃ V0 V1, (store ⟨B, 0, none⟩ .nilFunc).run Tryz.prog W = .ok () V0 ∧ (store ⟨B, 1, none⟩ .nilFunc).run Tryz.prog V0 = .ok () V1 ∧ V1.heap[B]? = some (.cells #[.nilFunc, .nilFunc, .int .i64 0, .int .i64 0] 49 (0, 0)) ∧
   (∀ (n : Nat) (U : World), n ≤ B → Below n U W → Below n U V1) ∧ (∀ b, b ≠ B → V1.heap[b]? = W.heap[b]?) := by
 have h1 : (W.setCell ⟨B, 0, none⟩ .nilFunc).heap[B]? = some (.cells #[.nilFunc, .nilFunc, .int .i64 0, .int .i64 0] 49 (0, 0)) := by
  have := blk_set h 0 .nilFunc;simpa using this
 have h2 : ((W.setCell ⟨B, 0, none⟩ .nilFunc).setCell ⟨B, 1, none⟩ .nilFunc).heap[B]? = some (.cells #[.nilFunc, .nilFunc, .int .i64 0, .int .i64 0] 49 (0, 0)) := by
  have := blk_set h1 1 .nilFunc;simpa using this
 exact ⟨_, _, store_nil W B 0 _ _ h rfl, store_nil _ B 1 _ _ h1 rfl, h2, fun n U hn hb => (hb.setCell hn _).setCell hn _, fun b hb => (Below.heap_setCell _ _ _ b hb).trans (Below.heap_setCell _ _ _ b hb)⟩
theorem cread_none (s : ByteArray) (w : World) (h : 2 ≤ s.size)
    (hn : ∀ m1 m2, fmtOf (w2 s 0) m1 m2 = none) :
    Calls Tryz.prog 7 #[.string s] w fun x w' => ∃ v, x = .returned (.tuple #[v, .int .i64 5]) ∧ Kd.R k61 61 w' w.heap.size (fun _ => True) v ([] : List S61) ∧ Below w.heap.size w w' := by
  have hz := (zero_of_info (P := Tryz.prog) (t := 49) (v := .agg #[.nilFunc, .nilFunc, .int .i64 0, .int .i64 0]) (n := 4) (by kernel_rfl)).1;have hu := Tryz.underlying49;have hk := Tryz.underlying47;obtain ⟨f, hf⟩ : ∃ f, f = w2 s 0 := ⟨_, rfl⟩;rw [← hf] at hn
  have hg : bin_Get.f s 0 [2] = some ([f], 0) := by
    unfold bin_Get.f;rw [if_pos (by decide), hf];have := get_one s 0;rw [if_pos (by omega)] at this;exact congrArg some this
  have HG := hI hg;have HN := hI hn;clear hg h hf hn;go_enter Tryz.func7, Tryz.ntmps7;go_wp2_with fail
  have D1 := lit_C w [2] (by decide);refine (bin_Get.calls s 0 _ 1 [2] [f] 0 _ D1 (Nat.le_refl _) HG.out).mono ?_;rintro x w1 ⟨v, rfl, hr, hb⟩;have hbw : Below w.heap.size w w1 := ((Below.refl w.heap.size w).alloc (Nat.le_refl _) (.cells (([2] : List Int).map (Value.int .i64)).toArray 3)).trans (hb.mono (by simp));have HB := hI hbw;obtain ⟨ga, k1, rfl, hga, hgl, hk1, hk2, hcs⟩ := row_block hr (by simp);have hlen : ([f] : List Int).length = 1 := rfl;rw [hlen] at hk1 hcs ⊢;have x0 : w1.cell? ⟨ga, 0, none⟩ = some (.int .i64 f) := (hcs 0 (by decide)).trans rfl;have HGL := hI hgl;clear hr hb hbw D1 hga hk2 hcs hlen HG;go_wp2_with fail
  go_region_held3 (fun u => u.cell? ⟨ga, 0, none⟩ = some (.int .i64 f)) (first | exact x0 | exact hx | exact hvv | exact cell_al _ (by assumption) | go_keep) (first
    | (go_at_call 23
       refine (formats_calls (World.drew w1)).mono ?_;rintro x W ⟨hb, bm, m1, m2, hbb, rfl, hF⟩;have hx : W.cell? ⟨ga, 0, none⟩ = some (.int .i64 f) := (hb.cell HGL.out).trans x0;have hl : (Instr.lookup 51 (.map (some bm)) (.int .i64 f) true).run Tryz.prog W = .ok (.tuple #[.agg #[.nilFunc, .nilFunc, .int .i64 0, .int .i64 0], .bool false]) W := look_run W bm _ _ f hF.m none ((find_fmt f m1 m2).trans (congrArg some (HN.out m1 m2)));have hl2 : (Instr.lookup 51 (.map (some bm)) (.int .i64 f) true).run Tryz.prog (W.alloc (.cells #[.nilFunc, .nilFunc, .int .i64 0, .int .i64 0] 49)) = .ok (.tuple #[.agg #[.nilFunc, .nilFunc, .int .i64 0, .int .i64 0], .bool false]) (W.alloc (.cells #[.nilFunc, .nilFunc, .int .i64 0, .int .i64 0] 49)) := look_run _ bm _ _ f ((heap_alloc_old W _ (blk_lt' hF.m)).trans hF.m) none ((find_fmt f m1 m2).trans (congrArg some (HN.out m1 m2)));have h0 := store_n0 W .nilFunc (.int .i64 0) (.int .i64 0) 49;have h1 := store_n1 W .nilFunc (.int .i64 0) (.int .i64 0) 49;clear hbb hF)
    | (go_at_call 23
       refine (formats_calls ((World.drew w1).alloc (.cells #[.nilFunc, .nilFunc, .int .i64 0, .int .i64 0] 49))).mono ?_;rintro x W ⟨hb, bm, m1, m2, hbb, rfl, hF⟩;have hx : W.cell? ⟨ga, 0, none⟩ = some (.int .i64 f) := (hb.cell (Nat.lt_trans HGL.out (by simp))).trans (cell_al _ x0);have hl : (Instr.lookup 51 (.map (some bm)) (.int .i64 f) true).run Tryz.prog W = .ok (.tuple #[.agg #[.nilFunc, .nilFunc, .int .i64 0, .int .i64 0], .bool false]) W := look_run W bm _ _ f hF.m none ((find_fmt f m1 m2).trans (congrArg some (HN.out m1 m2)));have hc : W.heap[w1.heap.size]? = some (.cells #[.nilFunc, .nilFunc, .int .i64 0, .int .i64 0] 49 (0, 0)) := (hb.block _ (by simp)).trans (heap_alloc_new (World.drew w1) _);obtain ⟨V0, V1, h0, h1, hV, hVB, hVO⟩ := put_nil W w1.heap.size hc;have y2 : V1.cell? ⟨w1.heap.size, 2, none⟩ = some (.int .i64 0) := (blk_cell hV 2).trans rfl;have y3 : V1.cell? ⟨w1.heap.size, 3, none⟩ = some (.int .i64 0) := (blk_cell hV 3).trans rfl;have z2 := Lib.frozen_of_heap hV 2;have z3 := Lib.frozen_of_heap hV 3;have hne : ga ≠ w1.heap.size := Nat.ne_of_lt HGL.out;have hvv : ((V1.setCell ⟨w1.heap.size, 2, none⟩ (.int .i64 0)).setCell ⟨w1.heap.size, 3, none⟩ (.int .i64 0)).cell? ⟨ga, 0, none⟩ = some (.int .i64 f) := (World.cell?_of_block ((Below.heap_setCell _ _ _ ga hne).trans ((Below.heap_setCell _ _ _ ga hne).trans (hVO ga hne)))).trans hx;clear hbb hF hc hne hVO))
  · have hcell : (W.alloc (.cells #[.nilFunc, .nilFunc, .int .i64 0, .int .i64 0] 49)).heap[W.heap.size]? = some (.cells #[.nilFunc, .nilFunc, .int .i64 0, .int .i64 0] 49 (0, 0)) := heap_alloc_new _ _
    have hbw : Below w.heap.size w (W.alloc (.cells #[.nilFunc, .nilFunc, .int .i64 0, .int .i64 0] 49)) := (below_then (Below.drew HB.out) HB.out.size hb).alloc (below_then (Below.drew HB.out) HB.out.size hb).size _;obtain ⟨U, hU⟩ : ∃ U, U = W.alloc (.cells #[.nilFunc, .nilFunc, .int .i64 0, .int .i64 0] 49) := ⟨_, rfl⟩;obtain ⟨F, hF⟩ : ∃ F, F = W.heap.size := ⟨_, rfl⟩;rw [← hU, ← hF] at hcell ⊢;rw [← hU] at hbw;have HBW := hI hbw
    (try clear hl2)
    (try clear hvv)
    (try clear y2 y3 z2 z3)
    (try clear hVB)
    clear hl h0 h1 hx hb hcell hbw hU hF x0
    (try clear hV)
    go_wp2;go_ret2;exact ⟨_, rfl, Kd.R_nil _ _ _ _ _, HBW.out⟩
  · have hcell : (W.alloc (.cells #[.nilFunc, .nilFunc, .int .i64 0, .int .i64 0] 49)).heap[W.heap.size]? = some (.cells #[.nilFunc, .nilFunc, .int .i64 0, .int .i64 0] 49 (0, 0)) := heap_alloc_new _ _
    have hbw : Below w.heap.size w (W.alloc (.cells #[.nilFunc, .nilFunc, .int .i64 0, .int .i64 0] 49)) := (below_then (Below.drew HB.out) HB.out.size hb).alloc (below_then (Below.drew HB.out) HB.out.size hb).size _;obtain ⟨U, hU⟩ : ∃ U, U = W.alloc (.cells #[.nilFunc, .nilFunc, .int .i64 0, .int .i64 0] 49) := ⟨_, rfl⟩;obtain ⟨F, hF⟩ : ∃ F, F = W.heap.size := ⟨_, rfl⟩;rw [← hU, ← hF] at hcell ⊢;rw [← hU] at hbw;have HBW := hI hbw
    (try clear hl2)
    (try clear hvv)
    (try clear y2 y3 z2 z3)
    (try clear hVB)
    clear hl h0 h1 hx hb hcell hbw hU hF x0
    (try clear hV)
    go_wp2;go_ret2;exact ⟨_, rfl, Kd.R_nil _ _ _ _ _, HBW.out⟩
  have hcell : ((V1.setCell ⟨w1.heap.size, 2, none⟩ (.int .i64 0)).setCell ⟨w1.heap.size, 3, none⟩ (.int .i64 0)).heap[w1.heap.size]? = some (.cells #[.nilFunc, .nilFunc, .int .i64 0, .int .i64 0] 49 (0, 0)) := by
    have := blk_set (blk_set hV 2 (.int .i64 0)) 3 (.int .i64 0);simpa using this
  have hbw : Below w.heap.size w ((V1.setCell ⟨w1.heap.size, 2, none⟩ (.int .i64 0)).setCell ⟨w1.heap.size, 3, none⟩ (.int .i64 0)) := ((hVB w.heap.size w HB.out.size (below_then ((Below.drew HB.out).alloc HB.out.size _) ((Below.drew HB.out).alloc HB.out.size _).size hb)).setCell HB.out.size _).setCell HB.out.size _;obtain ⟨U, hU⟩ : ∃ U, U = ((V1.setCell ⟨w1.heap.size, 2, none⟩ (.int .i64 0)).setCell ⟨w1.heap.size, 3, none⟩ (.int .i64 0)) := ⟨_, rfl⟩;obtain ⟨F, hF⟩ : ∃ F, F = w1.heap.size := ⟨_, rfl⟩;rw [← hU, ← hF] at hcell ⊢;rw [← hU] at hbw;have HBW := hI hbw
  (try clear hl2)
  (try clear hvv)
  (try clear y2 y3 z2 z3)
  (try clear hVB)
  clear hl h0 h1 hx hb hcell hbw hU hF x0
  (try clear hV)
  go_wp2;go_ret2;exact ⟨_, rfl, Kd.R_nil _ _ _ _ _, HBW.out⟩
def cmap_Read.f (a0 : ByteArray) : Option (List S61 × Int) := some (readM a0)
theorem cmap_Read.calls (a0 : ByteArray) (r1 : List S61) (r2 : Int) (w : World) (h : cmap_Read.f a0 = some (r1, r2)) :
  Calls Tryz.prog 7 #[.string a0] w fun e w' => ∃ v0_ : Value, e = .returned (.tuple #[v0_, .int .i64 r2]) ∧ Kd.R k61 61 w' w.heap.size (fun _ => True) v0_ r1 ∧ Below w.heap.size w w' := by
 have hr : readM a0 = (r1, r2) := Option.some.inj h;unfold readM at hr;by_cases hs : a0.size < 2
 ·
  rw [if_pos hs] at hr;obtain ⟨rfl, rfl⟩ := Prod.mk.inj hr;exact cread_short a0 w hs
 rw [if_neg hs] at hr
 have hC : ∀ (W : World) (L : List S61) (e : Int), getC a0 = (L, e) → Calls Tryz.prog 49 #[.string a0] W fun x w' => ∃ v, x = .returned (.tuple #[v, .int .i64 e]) ∧ Kd.R k61 61 w' W.heap.size (fun _ => True) v L ∧ Below W.heap.size W w' := fun W L e he =>
  chart_Get.calls a0 L e W (by unfold chart_Get.f; rw [he])
 by_cases h0 : w2 a0 0 = 0
 ·
  rw [if_pos (.inl h0)] at hr;exact cread_walk a0 w (by omega) 0 49 50 (fun _ _ => #[]) 1 0 (fun m1 m2 => by unfold fmtOf; rw [if_pos h0]; rfl) (entersK_of Tryz.func49 (by kernel_rfl) (by kernel_rfl)) r1 r2 (fun W => hC W r1 r2 hr)
 by_cases h6 : w2 a0 0 = 6
 ·
  rw [if_pos (.inr h6)] at hr;exact cread_walk a0 w (by omega) 2 49 53 (fun _ _ => #[]) 3 1 (fun m1 m2 => by unfold fmtOf; rw [if_neg h0, if_neg (by omega), if_pos h6]; rfl) (entersK_of Tryz.func49 (by kernel_rfl) (by kernel_rfl)) r1 r2 (fun W => hC W r1 r2 hr)
 rw [if_neg (by omega)] at hr;by_cases h4 : w2 a0 0 = 4
 ·
  rw [if_pos h4] at hr;exact cread_walk a0 w (by omega) 1 51 52 (fun _ _ => #[]) 3 1 (fun m1 m2 => by unfold fmtOf; rw [if_neg h0, if_pos h4]; rfl) (entersK_of Tryz.func51 (by kernel_rfl) (by kernel_rfl)) r1 r2 (fun W => segment_Get.calls a0 r1 r2 W (by unfold segment_Get.f; rw [hr]))
 rw [if_neg h4] at hr;by_cases h12 : w2 a0 0 = 12
 ·
  rw [if_pos (.inl h12)] at hr;exact cread_walk a0 w (by omega) 3 46 47 (fun m1 _ => #[.pointer (some ⟨m1, 0, none⟩)]) 3 10 (fun m1 m2 => by unfold fmtOf; rw [if_neg h0, if_neg h4, if_neg h6, if_pos h12]; rfl) (entersK_of Tryz.func46 (by kernel_rfl) (by kernel_rfl)) r1 r2 (fun W => group_Get.calls a0 r1 r2 W (by unfold group_Get.f; rw [hr]))
 by_cases h13 : w2 a0 0 = 13
 ·
  rw [if_pos (.inr h13)] at hr;exact cread_walk a0 w (by omega) 4 46 47 (fun _ m2 => #[.pointer (some ⟨m2, 0, none⟩)]) 3 10 (fun m1 m2 => by unfold fmtOf; rw [if_neg h0, if_neg h4, if_neg h6, if_neg h12, if_pos h13]; rfl) (entersK_of Tryz.func46 (by kernel_rfl) (by kernel_rfl)) r1 r2 (fun W => group_Get.calls a0 r1 r2 W (by unfold group_Get.f; rw [hr]))
 rw [if_neg (by omega)] at hr;obtain ⟨rfl, rfl⟩ := Prod.mk.inj hr;exact cread_none a0 w (by omega) (fun m1 m2 => by unfold fmtOf; rw [if_neg h0, if_neg h4, if_neg h6, if_neg h12, if_neg h13])
attribute [local go_sem] max2_int min2_int max_two min_two max_three min_three max_four min_four
def cmap_Get_1.f (a0_0 : Int) (a0_1 : Int) : Option (Int) := some a0_0
theorem cmap_Get_1.calls (a0_0 : Int) (a0_1 : Int) (r : Int) (w : World) (h : cmap_Get_1.f a0_0 a0_1 = some r) :
  Calls Tryz.prog 25 #[.agg #[.int .i64 a0_0, .int .i64 a0_1]] w fun e w' => e = .returned (.int .i64 r) ∧ Below w.heap.size w w' := by
 have hu44 := Tryz.underlying44;have HB := aK (Below.refl w.heap.size w);have H : (some a0_0) = some r := h;clear h;obtain rfl := Option.some.inj H;go_enter Tryz.func25, Tryz.ntmps25;go_wp2_with (first | ((with_reducible refine gate_dst (N := 1) rfl ?_); refine box_event ?hg (N := 1) ?hd (cs := #[.int .i64 a0_0, .int .i64 a0_1]) (t := 44) ?hr ?_; (case hd => rfl); (case hg => rfl); (case hr => exact hA); intro gb532 hg w2 hbox hb; have BK532 := aK (hbox); have GW532 := aK ((by rw [hg]; exact (below_size bA) : w.heap.size ≤ gb532)); have GE532 := aK ((by rw [hg]; exact (below_size bA) : w.heap.size ≤ gb532)); replace HB := aK (below_step bA hb); clear hb hbox hg; have hcz3_0 : w2.cell? ⟨gb532, 0, none⟩ = some (.int .i64 a0_0) := (blk_cell BK532.out 0).trans rfl; have hcz3_1 : w2.cell? ⟨gb532, 1, none⟩ = some (.int .i64 a0_1) := (blk_cell BK532.out 1).trans rfl; have hfz3_0 := blk_frozen BK532.out 0; have hfz3_1 := blk_frozen BK532.out 1))
 go_ret;exact ⟨eA, bG GE532.out⟩
end Go.Proofs.YtejdflndgnpkcaaGreat.P
end
