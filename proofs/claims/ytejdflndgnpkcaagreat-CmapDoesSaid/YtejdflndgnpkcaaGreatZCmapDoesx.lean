/- Words, contracts and plain facts of the proof. Each says its own condition. -/
import Derived.Test.YtejdflndgnpkcaaGreatZCmapDoese
import Derived.Test.YtejdflndgnpkcaaGreatZCmapDoesw
import Derived.MapKept
import Derived.Laws.Rows
import Derived.Carry
import Derived.Test.YtejdflndgnpkcaaGreatZCmapDoesr
set_option linter.unusedVariables false
set_option maxRecDepth 100000
set_option linter.unusedSimpArgs false
set_option maxHeartbeats 16000000
section
namespace Go.Proofs.YtejdflndgnpkcaaGreat.P
open Go.RowKit PW PL PM
theorem store_f0 (W : World) (f : FuncId) (caps : Array Value) (v1 v2 v3 : Value) (t : TypeId) : (store ⟨W.heap.size, 0, none⟩ (.func (.func f) #[] caps)).run Tryz.prog (W.alloc (.cells #[.nilFunc, v1, v2, v3] t)) = .ok () (W.alloc (.cells #[.func (.func f) #[] caps, v1, v2, v3] t)) := by
 rw [run_store _ _ _ _ _ rfl];have e := World.alloc_heap_new W (.cells #[.nilFunc, v1, v2, v3] t);rw [(blk_cell e 0).trans rfl];rw [Lib.frozen_of_heap e 0];simp [go_sem]
theorem store_f1 (W : World) (f : FuncId) (caps : Array Value) (v0 v2 v3 : Value) (t : TypeId) : (store ⟨W.heap.size, 1, none⟩ (.func (.func f) #[] caps)).run Tryz.prog (W.alloc (.cells #[v0, .nilFunc, v2, v3] t)) = .ok () (W.alloc (.cells #[v0, .func (.func f) #[] caps, v2, v3] t)) := by
 rw [run_store _ _ _ _ _ rfl];have e := World.alloc_heap_new W (.cells #[v0, .nilFunc, v2, v3] t);rw [(blk_cell e 1).trans rfl];rw [Lib.frozen_of_heap e 1];simp [go_sem]
def fmtG (m : Nat) : Value := .agg #[.func (.func 46) #[] #[], .func (.func 47) #[] #[.pointer (some ⟨m, 0, none⟩)], .int .i64 3, .int .i64 10]
theorem fmt1_calls (n : Int) (w : World) : Calls Tryz.prog 45 #[.int .i64 n] w fun e w' => Below w.heap.size w w' ∧ ∃ m, w.heap.size ≤ m ∧ e = .returned (fmtG m) ∧ w'.heap[m]? = some (.cells #[.int .i64 n] 3 (0, 0)) := by
 have hz := (zero_of_info (P := Tryz.prog) (t := 49) (v := .agg #[.nilFunc, .nilFunc, .int .i64 0, .int .i64 0]) (n := 4) (by kernel_rfl)).1;have hu := Tryz.underlying49;have hk := Tryz.underlying47;have h0 := store_f0 (w.alloc (.cells #[.int .i64 n] 3)) 46 #[] .nilFunc (.int .i64 0) (.int .i64 0) 49;have h1 := store_f1 (w.alloc (.cells #[.int .i64 n] 3)) 47 #[.pointer (some ⟨w.heap.size, 0, none⟩)] (.func (.func 46) #[] #[]) (.int .i64 0) (.int .i64 0) 49;have hsz : (w.alloc (.cells #[.int .i64 n] 3)).heap.size = w.heap.size + 1 := World.size_alloc _ _;rw [hsz] at h0 h1;go_enter Tryz.func45, Tryz.ntmps45;go_wp2_with fail
 refine bodyPost_ret (results_cell_row rfl _ _ (w.heap.size + 1) 49 _ (0, 0) _ rfl (heap_alloc2_new _ _ _) hu rfl (by kernel_rfl)) rfl ?_;exact ⟨(((Below.refl _ _).alloc (Nat.le_refl _) _).alloc (by simp) _), w.heap.size, Nat.le_refl _, rfl, heap_alloc2_old _ _ _⟩
open Go.MapKept in
theorem ins_run (W : World) (b : Nat) (es : Array MapEntry) (clock : Nat) (k : Int) (v : Value) (hb : W.heap[b]? = some (.map es clock)) (hf : Instr.findNow (.int .i64) (.int .i64 k) es.toList 0 = some none) :
  ∃ W', (Instr.mapUpdate 51 (.map (some b)) (.int .i64 k) v).run Tryz.prog W = .ok () W' ∧ W'.heap[b]? = some (.map (es.push { key := .int .i64 k, val := v, born := clock }) (clock + 1)) ∧ (∀ r, r ≠ b → W'.heap[r]? = W.heap[r]?) ∧ W'.heap.size = W.heap.size ∧
   ∀ (B : Nat) (U : World), B ≤ b → Below B U W → Below B U W' := by
 refine ⟨{ W with heap := W.heap.setIfInBounds b (.map (es.push { key := .int .i64 k, val := v, born := clock }) (clock + 1)) }, by simp [Instr.mapUpdate, run_underlying Tryz.underlying51, Go.MapKept.run_getObj_map (P := Tryz.prog) hb, Go.MapKept.run_checkKey (P := Tryz.prog) (w := W) Tryz.underlying3 (k := .int .i64 k) (by simp [IsKey]), Go.MapKept.run_findKey (P := Tryz.prog) (w := W) Tryz.underlying3 hf, Go.MapKept.run_setObj_map (P := Tryz.prog) _ hb, Result.andThen], (heap_set hb).1, fun r hr => (heap_set hb).2 r hr, by simp, fun B U hB h => ⟨h.os, h.tape, h.output, Nat.le_trans h.size (by simp), fun r hr => ((heap_set hb).2 r (by omega)).trans (h.block r hr)⟩⟩
open Go.MapKept in
theorem look_run (W : World) (b : Nat) (es : Array MapEntry) (clock : Nat) (k : Int) (hb : W.heap[b]? = some (.map es clock)) (a : Option (Nat × Value)) (hf : Instr.findNow (.int .i64) (.int .i64 k) es.toList 0 = some a) :
  (Instr.lookup 51 (.map (some b)) (.int .i64 k) true).run Tryz.prog W = .ok (match a with | some (_, v) => .tuple #[v, .bool true] | none => .tuple #[.agg #[.nilFunc, .nilFunc, .int .i64 0, .int .i64 0], .bool false]) W := by
 have hz := (zero_of_info (P := Tryz.prog) (t := 49) (v := .agg #[.nilFunc, .nilFunc, .int .i64 0, .int .i64 0]) (n := 4) (by kernel_rfl)).1;cases a with
 | none => simp [Instr.lookup, run_underlying Tryz.underlying51, Go.MapKept.run_getObj_map (P := Tryz.prog) hb, Go.MapKept.run_checkKey (P := Tryz.prog) (w := W) Tryz.underlying3 (k := .int .i64 k) (by simp [IsKey]), Go.MapKept.run_findKey (P := Tryz.prog) (w := W) Tryz.underlying3 hf, hz, Result.andThen]
 | some p => simp [Instr.lookup, run_underlying Tryz.underlying51, Go.MapKept.run_getObj_map (P := Tryz.prog) hb, Go.MapKept.run_checkKey (P := Tryz.prog) (w := W) Tryz.underlying3 (k := .int .i64 k) (by simp [IsKey]), Go.MapKept.run_findKey (P := Tryz.prog) (w := W) Tryz.underlying3 hf, Result.andThen]
def fmtC (g p : Nat) (a b : Int) : Value := .agg #[.func (.func g) #[] #[], .func (.func p) #[] #[], .int .i64 a, .int .i64 b]
def fmt0 : Value := fmtC 49 50 1 0
def fmt4 : Value := fmtC 51 52 3 1
def fmt6 : Value := fmtC 49 53 3 1
def ent (k : Int) (v : Value) (c : Nat) : MapEntry := { key := .int .i64 k, val := v, born := c }
def ents (m1 m2 : Nat) : Array MapEntry := #[ent 0 fmt0 0, ent 4 fmt4 1, ent 6 fmt6 2, ent 12 (fmtG m1) 3, ent 13 (fmtG m2) 4]
structure Formats (w : World) (b m1 m2 : Nat) : Prop where
 m : w.heap[b]? = some (.map (ents m1 m2) 5)
 a : w.heap[m1]? = some (.cells #[.int .i64 12] 3 (0, 0))
 c : w.heap[m2]? = some (.cells #[.int .i64 13] 3 (0, 0))
theorem formats_calls (w : World) : Calls Tryz.prog 23 #[] w fun e w' => Below w.heap.size w w' ∧ ∃ b m1 m2, w.heap.size ≤ b ∧ e = .returned (.map (some b)) ∧ Formats w' b m1 m2 := by
 have hmm := @run_makeMap Tryz.prog;have he : EntersK 45 := entersK_of Tryz.func45 (by kernel_rfl) (by kernel_rfl);unfold EntersK at he;have hu := Tryz.underlying49;have hk := Tryz.underlying47;have n0 : (w.alloc (.map #[] 0)).heap[w.heap.size]? = some (.map #[] 0) := heap_alloc_new _ _;have b0 : Below w.heap.size w (w.alloc (.map #[] 0)) := (Below.refl _ _).alloc (Nat.le_refl _) _;have s0 : (w.alloc (.map #[] 0)).heap.size = w.heap.size + 1 := World.size_alloc _ _;obtain ⟨w1, e1, n1, k1, s1, b1⟩ := ins_run _ _ _ _ 0 (.agg #[.func (.func 49) #[] #[], .func (.func 50) #[] #[], .int .i64 1, .int .i64 0]) n0 rfl;obtain ⟨w2, e2, n2, k2, s2, b2⟩ := ins_run _ _ _ _ 4 (.agg #[.func (.func 51) #[] #[], .func (.func 52) #[] #[], .int .i64 3, .int .i64 1]) n1 rfl;obtain ⟨w3, e3, n3, k3, s3, b3⟩ := ins_run _ _ _ _ 6 (.agg #[.func (.func 49) #[] #[], .func (.func 53) #[] #[], .int .i64 3, .int .i64 1]) n2 rfl;have HB := hI (b3 _ _ (Nat.le_refl _) (b2 _ _ (Nat.le_refl _) (b1 _ _ (Nat.le_refl _) b0)));have HN := hI n3;have HS := hI (s3.trans (s2.trans (s1.trans s0)));clear n0 n1 n2 n3 k1 k2 k3 b0 b1 b2 b3 s0 s1 s2 s3;go_enter Tryz.func23, Tryz.ntmps23;go_wp2_with fail
 clear e1 e2 e3;refine (fmt1_calls 12 w3).mono ?_;rintro e w4 ⟨hb4, m1, hm1, rfl, hc1⟩;have HM1 := hI hm1;have HB4 := hI hb4;have HC1 := hI hc1;clear hb4 hm1 hc1;obtain ⟨w5, e5, n5, k5, s5, b5⟩ := ins_run w4 w.heap.size _ _ 12 (fmtG m1) ((HB4.out.block w.heap.size (by have := HS.out; omega)).trans HN.out) rfl;have HN5 := hI n5;have HK5 := hI k5;have HS5 := hI s5;have HB5 := hI (b5 _ _ (Nat.le_refl _) (below_then HB.out (by have := HS.out; omega) HB4.out));clear n5 k5 s5 b5;unfold fmtG at e5;unfold fmtG;go_wp2_with fail
 clear e5;refine (fmt1_calls 13 w5).mono ?_;rintro e w6 ⟨hb6, m2, hm2, rfl, hc2⟩;have HM2 := hI hm2;have HB6 := hI hb6;have HC2 := hI hc2;clear hb6 hm2 hc2;obtain ⟨w7, e7, n7, k7, s7, b7⟩ := ins_run w6 w.heap.size _ _ 13 (fmtG m2) ((HB6.out.block w.heap.size (blk_lt HN5.out)).trans HN5.out) rfl;have HN7 := hI n7;have HK7 := hI k7;have HB7 := hI (b7 _ _ (Nat.le_refl _) (below_then HB5.out HB5.out.size HB6.out));clear n7 k7 s7 b7;unfold fmtG at e7;unfold fmtG;go_wp2_with fail
 go_ret;have hlt1 := blk_lt HC1.out;have hlt2 := blk_lt HC2.out;have h5 := HS5.out;have hS := HS.out;have hm1 := HM1.out;have hm2 := HM2.out;have hs4 := HB4.out.size;have hs6 := HB6.out.size;refine ⟨HB7.out, w.heap.size, m1, m2, Nat.le_refl _, rfl, HN7.out, ?_, ?_⟩
 ·
  rw [HK7.out m1 (by omega), HB6.out.block m1 (by omega), HK5.out m1 (by omega)];exact HC1.out
 rw [HK7.out m2 (by omega)];exact HC2.out
def headC (a b : Int) : List UInt8 := bytesN 0 2 ++ (bytesN 1 2 ++ (bytesN a 2 ++ (bytesN b 2 ++ (bytesN 12 4 ++ []))))
def wrapC (a b : Int) (r : ByteArray × Int) : ByteArray × Int := if r.2 ≠ 0 then (⟨#[]⟩, r.2) else ((⟨(headC a b).toArray⟩ : ByteArray) ++ r.1, 0)
def putM (l : List S61) (n : Int) : ByteArray × Int :=
 if n = 0 then wrapC 1 0 (smallN l)
 else if n = 4 then wrapC 3 1 (putS l)
 else if n = 6 then wrapC 3 1 (trimN l)
 else if n = 12 then wrapC 3 10 (putG l 12)
 else if n = 13 then wrapC 3 10 (putG l 13)
 else (⟨#[]⟩, 1)
theorem headC_put {a b : Int} (h0 : 0 ≤ a) (h1 : a ≤ 65535) (h2 : 0 ≤ b) (h3 : b ≤ 65535) : bin_Put.f [2, 2, 2, 2, 4] [0, 1, a, b, 12] = some (⟨(headC a b).toArray⟩, 0) := by
  unfold bin_Put.f;rw [if_pos (by decide)];congr 1
  unfold putN
  rw [if_neg (by rintro (h | h); · exact absurd h (by decide)
                 · exact h rfl)]
  simp only [puts];rw [if_pos (fits2 (by decide) (by decide)), if_pos (fits2 (by decide) (by decide)), if_pos (fits2 h0 h1), if_pos (fits2 h2 h3), if_pos (fits4 (by decide) (by decide))];rfl
theorem headC_length (a b : Int) : (headC a b).length = 12 := by
 unfold headC;simp [bytesN_length]
theorem fgrp_calls (A0 : Option Addr) (c0 : Nat) (l : List S61) (n : Int) (m : Nat) (W : World) (hr0 : Kd.C k61 W A0 l.length l) (hc0 : l.length ≤ c0) (hm : W.heap[m]? = some (.cells #[.int .i64 n] 3 (0, 0))) :
  Calls Tryz.prog 47 #[.slice A0 l.length c0, .pointer (some ⟨m, 0, none⟩)] W fun e w' => e = .returned (.tuple #[.string (putG l n).1, .int .i64 (putG l n).2]) ∧ Below W.heap.size W w' := by
 obtain ⟨c1, _⟩ := one_cell hm;have H1 := hI (group_Put.calls A0 c0 l n (putG l n).1 (putG l n).2 W hr0 hc0 rfl);clear hr0 hc0 hm;go_enter Tryz.func47, Tryz.ntmps47;go_wp2_with fail
 refine H1.out.mono ?_;rintro e w1 ⟨rfl, hb⟩;have HB := hI hb;clear hb H1;go_wp2;go_ret2;exact ⟨rfl, HB.out⟩
def fmtOf (n : Int) (m1 m2 : Nat) : Option (Nat × Value) := if n = 0 then some (0, fmt0) else if n = 4 then some (1, fmt4) else if n = 6 then some (2, fmt6) else if n = 12 then some (3, fmtG m1) else if n = 13 then some (4, fmtG m2) else none
theorem same_int (a b : Int) : Instr.sameNow (.int .i64) (.int .i64 a) (.int .i64 b) = some (a == b) := rfl
theorem find_fmt (n : Int) (m1 m2 : Nat) : Instr.findNow (.int .i64) (.int .i64 n) (ents m1 m2).toList 0 = some (fmtOf n m1 m2) := by
 have he : (ents m1 m2).toList = [ent 0 fmt0 0, ent 4 fmt4 1, ent 6 fmt6 2, ent 12 (fmtG m1) 3, ent 13 (fmtG m2) 4] := rfl;rw [he];unfold fmtOf;simp only [Instr.findNow, ent, same_int];by_cases h0 : n = 0
 · subst h0; rfl
 rw [if_neg h0, beq_eq_false_iff_ne.2 h0];by_cases h1 : n = 4
 · subst h1; rfl
 rw [if_neg h1, beq_eq_false_iff_ne.2 h1];by_cases h2 : n = 6
 · subst h2; rfl
 rw [if_neg h2, beq_eq_false_iff_ne.2 h2];by_cases h3 : n = 12
 · subst h3; rfl
 rw [if_neg h3, beq_eq_false_iff_ne.2 h3];by_cases h4 : n = 13
 · subst h4; rfl
 rw [if_neg h4, beq_eq_false_iff_ne.2 h4]
theorem store_n0 (W : World) (v1 v2 v3 : Value) (t : TypeId) : (store ⟨W.heap.size, 0, none⟩ .nilFunc).run Tryz.prog (W.alloc (.cells #[.nilFunc, v1, v2, v3] t)) = .ok () (W.alloc (.cells #[.nilFunc, v1, v2, v3] t)) := by
 rw [run_store _ _ _ _ _ rfl];have e := World.alloc_heap_new W (.cells #[.nilFunc, v1, v2, v3] t);rw [(blk_cell e 0).trans rfl];rw [Lib.frozen_of_heap e 0];simp [go_sem]
theorem store_n1 (W : World) (v0 v2 v3 : Value) (t : TypeId) : (store ⟨W.heap.size, 1, none⟩ .nilFunc).run Tryz.prog (W.alloc (.cells #[v0, .nilFunc, v2, v3] t)) = .ok () (W.alloc (.cells #[v0, .nilFunc, v2, v3] t)) := by
 rw [run_store _ _ _ _ _ rfl];have e := World.alloc_heap_new W (.cells #[v0, .nilFunc, v2, v3] t);rw [(blk_cell e 1).trans rfl];rw [Lib.frozen_of_heap e 1];simp [go_sem]
theorem cput_none (A0 : Option Addr) (c0 : Nat) (l : List S61) (n : Int) (w : World) (hn : ∀ m1 m2, fmtOf n m1 m2 = none) :
  Calls Tryz.prog 9 #[.slice A0 l.length c0, .int .i64 n] w fun e w' => e = .returned (.tuple #[.string ⟨#[]⟩, .int .i64 1]) ∧ Below w.heap.size w w' := by
 have hz := (zero_of_info (P := Tryz.prog) (t := 49) (v := .agg #[.nilFunc, .nilFunc, .int .i64 0, .int .i64 0]) (n := 4) (by kernel_rfl)).1;have hu := Tryz.underlying49;have hk := Tryz.underlying47;have HF := hI (formats_calls w);have HN := hI hn;clear hn;go_enter Tryz.func9, Tryz.ntmps9;go_wp2_with fail
 refine HF.out.mono ?_;rintro e w1 ⟨hb, b, m1, m2, hbb, rfl, hF⟩;have hl : (Instr.lookup 51 (.map (some b)) (.int .i64 n) true).run Tryz.prog w1 = .ok (.tuple #[.agg #[.nilFunc, .nilFunc, .int .i64 0, .int .i64 0], .bool false]) w1 := look_run w1 b _ _ n hF.m none ((find_fmt n m1 m2).trans (congrArg some (HN.out m1 m2)));have h0 := store_n0 w1 .nilFunc (.int .i64 0) (.int .i64 0) 49;have h1 := store_n1 w1 .nilFunc (.int .i64 0) (.int .i64 0) 49;have HB := hI hb;clear hb hbb hF HF HN;go_wp2_with fail
 go_ret2;exact ⟨rfl, HB.out.alloc HB.out.size _⟩
theorem cput_walk (A0 : Option Addr) (c0 : Nat) (l : List S61) (n : Int) (w : World) (hr0 : Kd.C k61 w A0 l.length l) (i g p : Nat) (caps : Nat → Nat → Array Value) (a b : Int)
  (hn : ∀ m1 m2, fmtOf n m1 m2 = some (i, .agg #[.func (.func g) #[] #[], .func (.func p) #[] (caps m1 m2), .int .i64 a, .int .i64 b])) (he : EntersK p) (r : ByteArray × Int) (hrs : r.1.size ≤ 2000000)
  (ha : 0 ≤ a ∧ a ≤ 65535) (hb : 0 ≤ b ∧ b ≤ 65535)
  (hput : ∀ (W : World) (m1 m2 : Nat), Kd.C k61 W A0 l.length l → W.heap[m1]? = some (.cells #[.int .i64 12] 3 (0, 0)) → W.heap[m2]? = some (.cells #[.int .i64 13] 3 (0, 0)) →
   Calls Tryz.prog p (#[.slice A0 l.length c0] ++ caps m1 m2) W fun e w' => e = .returned (.tuple #[.string r.1, .int .i64 r.2]) ∧ Below W.heap.size W w') :
  Calls Tryz.prog 9 #[.slice A0 l.length c0, .int .i64 n] w fun e w' => e = .returned (.tuple #[.string (wrapC a b r).1, .int .i64 (wrapC a b r).2]) ∧ Below w.heap.size w w' := by
 have hz := (zero_of_info (P := Tryz.prog) (t := 49) (v := .agg #[.nilFunc, .nilFunc, .int .i64 0, .int .i64 0]) (n := 4) (by kernel_rfl)).1;have hu := Tryz.underlying49;have hk := Tryz.underlying47;have HF := hI (formats_calls w);have HN := hI hn;have HC := hI hr0;have HP := hI hput;have HRS := hI hrs;have HH := hI (headC_put ha.1 ha.2 hb.1 hb.2);obtain ⟨s, e, hse⟩ : ∃ s e, r = (s, e) := ⟨r.1, r.2, rfl⟩;subst hse;unfold EntersK at he;clear hn hr0 hput hrs ha hb;go_enter Tryz.func9, Tryz.ntmps9;go_wp2_with fail
 refine HF.out.mono ?_;rintro x w1 ⟨hb, bm, m1, m2, hbb, rfl, hF⟩;have hl : (Instr.lookup 51 (.map (some bm)) (.int .i64 n) true).run Tryz.prog w1 = .ok (.tuple #[.agg #[.func (.func g) #[] #[], .func (.func p) #[] (caps m1 m2), .int .i64 a, .int .i64 b], .bool true]) w1 := look_run w1 bm _ _ n hF.m _ ((find_fmt n m1 m2).trans (congrArg some (HN.out m1 m2)));have h0 := store_f0 w1 g #[] .nilFunc (.int .i64 0) (.int .i64 0) 49;have h1 := store_f1 w1 p (caps m1 m2) (.func (.func g) #[] #[]) (.int .i64 0) (.int .i64 0) 49;have HB := hI hb;have HF1 := hI hF;clear hb hbb hF HF HN;go_wp2_with fail
 clear hl h0 h1;have C2 := Kd.C_alloc (Kd.C_below HC.out HB.out) (.cells #[.func (.func g) #[] #[], .func (.func p) #[] (caps m1 m2), .int .i64 a, .int .i64 b] 49);refine (HP.out _ m1 m2 C2 ((heap_alloc_old w1 _ (blk_lt HF1.out.a)).trans HF1.out.a) ((heap_alloc_old w1 _ (blk_lt HF1.out.c)).trans HF1.out.c)).mono ?_;rintro x w3 ⟨rfl, hb3⟩;have hcell : w3.heap[w1.heap.size]? = some (.cells #[.func (.func g) #[] #[], .func (.func p) #[] (caps m1 m2), .int .i64 a, .int .i64 b] 49 (0, 0)) := (hb3.block _ (by simp)).trans (heap_alloc_new _ _);have x2 : w3.cell? ⟨w1.heap.size, 2, none⟩ = some (.int .i64 a) := (blk_cell hcell 2).trans rfl;have x3 : w3.cell? ⟨w1.heap.size, 3, none⟩ = some (.int .i64 b) := (blk_cell hcell 3).trans rfl;have hlt := blk_lt hcell;have hbw : Below w.heap.size w w3 := below_then (HB.out.alloc HB.out.size _) (HB.out.alloc HB.out.size _).size hb3;have HB3 := hI hbw;clear hb3 hcell C2 HF1 HP HC HB hbw;by_cases h0 : e = 0
 case neg =>
  have d1 : (e != 0) = true := by simpa using h0
  have HR := hI (show wrapC a b (s, e) = (⟨#[]⟩, e) by unfold wrapC; rw [if_pos h0]);clear h0;go_wp2;go_ret2;rw [HR.out];exact ⟨rfl, HB3.out⟩
 subst h0;have HR := hI (show wrapC a b (s, 0) = ((⟨(headC a b).toArray⟩ : ByteArray) ++ s, 0) by unfold wrapC; rw [if_neg (fun h => h rfl)]);go_wp2_with fail
 have D1 := Kd.C_alloc (lit_C w3 [2, 2, 2, 2, 4] (by decide)) (.cells (([0, 1, a, b, 12] : List Int).map (Value.int .i64)).toArray 3);have D2 := lit_C (w3.alloc (.cells (([2, 2, 2, 2, 4] : List Int).map (Value.int .i64)).toArray 3)) [0, 1, a, b, 12] (by simp [maxLen]);rw [World.size_alloc] at D2;refine (bin_Put.calls _ 5 [2, 2, 2, 2, 4] _ 5 [0, 1, a, b, 12] _ _ _ D1 (Nat.le_refl _) D2 (Nat.le_refl _) HH.out).mono ?_;rintro x w6 ⟨rfl, hb⟩;have hb3 := (((Below.refl w3.heap.size w3).alloc (Nat.le_refl _) (.cells (([2, 2, 2, 2, 4] : List Int).map (Value.int .i64)).toArray 3)).alloc (by simp) (.cells (([0, 1, a, b, 12] : List Int).map (Value.int .i64)).toArray 3));have HB6 := hI (below_then HB3.out HB3.out.size (hb3.trans (hb.mono hb3.size)));obtain ⟨H, hH⟩ : ∃ H : ByteArray, H = ⟨(headC a b).toArray⟩ := ⟨_, rfl⟩;have hHs : H.size = 12 := by rw [hH]; simp [ByteArray.size, headC_length]
 have hadd : (9223372036854775807 < H.size + s.size) = False := eq_false (by
  have hs : s.size ≤ 2000000 := HRS.out;exact Nat.not_lt.2 (Nat.le_trans (show H.size + s.size ≤ 2000012 by omega) (by decide)))
 rw [← hH] at HR ⊢;clear D1 D2 hb hb3 x2 x3 hlt hH hHs HH HRS HB3;go_wp2;go_ret2;rw [HR.out];exact ⟨rfl, HB6.out⟩
theorem small_size (l : List S61) : (smallN l).1.size ≤ 2000000 := by
 unfold smallN;split
 · exact Nat.zero_le _
 split
 · exact Nat.zero_le _
 split
 ·
  dsimp only
  rw [ba_size];unfold smallB;simp
 exact Nat.zero_le _
theorem trim_size (l : List S61) : (trimN l).1.size ≤ 2000000 := by
 unfold trimN;split
 · exact Nat.zero_le _
 split
 · exact Nat.zero_le _
 dsimp only
 rw [ba_size, List.length_append, headT_length, glyphsT_length];omega
theorem putS_size (l : List S61) : (putS l).1.size ≤ 2000000 := by
 by_cases h : (putS l).2 = 0
 ·
  obtain ⟨L, k, hs, hp⟩ := putS_ok h;obtain ⟨_, _, _, _, hg⟩ := segP_good hs;have := hg.s;rw [hp, ba_size, bytesS_length, out_length]; omega
 unfold putS at h ⊢;by_cases h1 : (segP l).2.2 ≠ 0
 · rw [if_pos h1]; exact Nat.zero_le _
 rw [if_neg h1] at h; exact absurd rfl h
theorem putG_size (l : List S61) (f : Int) : (putG l f).1.size ≤ 2000000 := by
 unfold putG;split
 · exact Nat.zero_le _
 split
 · exact Nat.zero_le _
 obtain ⟨L, e, hs⟩ : ∃ L e, splitN l (13 - f) = (L, e) := ⟨_, _, rfl⟩;have := (splitN_ok hs).1;rw [hs];dsimp only
 rw [ba_size, List.length_append, headB_length, spansB_length]; omega
def cmap_Put.f (l0 : List S61) (a1 : Int) : Option (ByteArray × Int) := some (putM l0 a1)
theorem cmap_Put.calls (A0 : Option Addr) (c0 : Nat) (l0 : List S61) (a1 : Int) (r1 : ByteArray) (r2 : Int) (w : World) (hr0 : Kd.C k61 w A0 l0.length l0) (hc0 : l0.length ≤ c0) (h : cmap_Put.f l0 a1 = some (r1, r2)) :
  Calls Tryz.prog 9 #[.slice A0 l0.length c0, .int .i64 a1] w fun e w' => e = .returned (.tuple #[.string r1, .int .i64 r2]) ∧ Below w.heap.size w w' := by
 have hr : putM l0 a1 = (r1, r2) := Option.some.inj h;have hres : ∀ x : ByteArray × Int, putM l0 a1 = x → r1 = x.1 ∧ r2 = x.2 := fun x hx => by rw [hx] at hr; rw [hr]; exact ⟨rfl, rfl⟩
 by_cases h0 : a1 = 0
 ·
  obtain ⟨rfl, rfl⟩ := hres (wrapC 1 0 (smallN l0)) (by unfold putM; rw [if_pos h0])
  exact cput_walk A0 c0 l0 a1 w hr0 0 49 50 (fun _ _ => #[]) 1 0 (fun m1 m2 => by unfold fmtOf; rw [if_pos h0]; rfl) (entersK_of Tryz.func50 (by kernel_rfl) (by kernel_rfl)) _ (small_size l0) (by decide) (by decide)
   (fun W m1 m2 hC _ _ => chart_PutSmall.calls A0 c0 l0 _ _ W hC hc0 rfl)
 by_cases h1 : a1 = 4
 ·
  obtain ⟨rfl, rfl⟩ := hres (wrapC 3 1 (putS l0)) (by unfold putM; rw [if_neg h0, if_pos h1])
  exact cput_walk A0 c0 l0 a1 w hr0 1 51 52 (fun _ _ => #[]) 3 1 (fun m1 m2 => by unfold fmtOf; rw [if_neg h0, if_pos h1]; rfl) (entersK_of Tryz.func52 (by kernel_rfl) (by kernel_rfl)) _ (putS_size l0) (by decide) (by decide)
   (fun W m1 m2 hC _ _ => segment_Put.calls A0 c0 l0 _ _ W hC hc0 rfl)
 by_cases h2 : a1 = 6
 ·
  obtain ⟨rfl, rfl⟩ := hres (wrapC 3 1 (trimN l0)) (by unfold putM; rw [if_neg h0, if_neg h1, if_pos h2])
  exact cput_walk A0 c0 l0 a1 w hr0 2 49 53 (fun _ _ => #[]) 3 1 (fun m1 m2 => by unfold fmtOf; rw [if_neg h0, if_neg h1, if_pos h2]; rfl) (entersK_of Tryz.func53 (by kernel_rfl) (by kernel_rfl)) _ (trim_size l0) (by decide) (by decide)
   (fun W m1 m2 hC _ _ => chart_PutTrimmed.calls A0 c0 l0 _ _ W hC hc0 rfl)
 by_cases h3 : a1 = 12
 ·
  obtain ⟨rfl, rfl⟩ := hres (wrapC 3 10 (putG l0 12)) (by unfold putM; rw [if_neg h0, if_neg h1, if_neg h2, if_pos h3])
  exact cput_walk A0 c0 l0 a1 w hr0 3 46 47 (fun m1 _ => #[.pointer (some ⟨m1, 0, none⟩)]) 3 10 (fun m1 m2 => by unfold fmtOf; rw [if_neg h0, if_neg h1, if_neg h2, if_pos h3]; rfl) (entersK_of Tryz.func47 (by kernel_rfl) (by kernel_rfl)) _ (putG_size l0 12) (by decide) (by decide)
   (fun W m1 m2 hC hm _ => fgrp_calls A0 c0 l0 12 m1 W hC hc0 hm)
 by_cases h4 : a1 = 13
 ·
  obtain ⟨rfl, rfl⟩ := hres (wrapC 3 10 (putG l0 13)) (by unfold putM; rw [if_neg h0, if_neg h1, if_neg h2, if_neg h3, if_pos h4])
  exact cput_walk A0 c0 l0 a1 w hr0 4 46 47 (fun _ m2 => #[.pointer (some ⟨m2, 0, none⟩)]) 3 10 (fun m1 m2 => by unfold fmtOf; rw [if_neg h0, if_neg h1, if_neg h2, if_neg h3, if_pos h4]; rfl) (entersK_of Tryz.func47 (by kernel_rfl) (by kernel_rfl)) _ (putG_size l0 13) (by decide) (by decide)
   (fun W m1 m2 hC _ hm => fgrp_calls A0 c0 l0 13 m2 W hC hc0 hm)
 obtain ⟨rfl, rfl⟩ := hres (⟨#[]⟩, 1) (by unfold putM; rw [if_neg h0, if_neg h1, if_neg h2, if_neg h3, if_neg h4]);exact cput_none A0 c0 l0 a1 w (fun m1 m2 => by unfold fmtOf; rw [if_neg h0, if_neg h1, if_neg h2, if_neg h3, if_neg h4])
end Go.Proofs.YtejdflndgnpkcaaGreat.P
end
