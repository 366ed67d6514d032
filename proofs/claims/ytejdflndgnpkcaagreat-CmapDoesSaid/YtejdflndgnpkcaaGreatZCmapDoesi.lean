/- Words, contracts and plain facts of the proof. Each says its own condition. -/
import Derived.Test.YtejdflndgnpkcaaGreatZCmapDoesg
import Derived.Test.YtejdflndgnpkcaaGreatZCmapDoesh
import Derived.Test.YtejdflndgnpkcaaGreatZCmapDoesf
import Derived.Deep.WholeRow
import Derived.Deep.RegionHeld3
import Derived.WalkMore
import Derived.Lib.Hide
import Derived.Test.YtejdflndgnpkcaaGreatZCmapDoese
set_option linter.unusedVariables false
set_option maxRecDepth 100000
set_option linter.unusedSimpArgs false
set_option maxHeartbeats 16000000
section
namespace Go.Proofs.YtejdflndgnpkcaaGreat.P
open Go.RowKit PW PL PM
theorem lit_C (w : World) (l : List Int) (h : l.length ≤ maxLen) : Kd.C (Kd.int .i64) (w.alloc (.cells (l.map (Value.int .i64)).toArray 3)) (some ⟨w.heap.size, 0, none⟩) l.length l := by
 have ho := World.ownsRow_lit (base := 0) (e := 3) (size := 1) w (l.map (Value.int .i64)).toArray l.length (Nat.zero_le _) h (by simp);have hr : Kd.R (Kd.int .i64) 3 (w.alloc (.cells (l.map (Value.int .i64)).toArray 3)) 0 (fun _ => True) (.slice (some ⟨w.heap.size, 0, none⟩) l.length l.length) l := Kd.R_of_own (by simpa [encs] using ho) (fun _ _ => trivial);obtain ⟨A, c, e, _, hC⟩ := Kd.R_reads hr;injection e with e1 e2 e3
 rw [e1]; exact hC
theorem row_block {W : World} {base : Nat} {ok : Nat → Prop} {v : Value} {xs : List Int} (h : Kd.R (Kd.int .i64) 3 W base ok v xs) (hn : 0 < xs.length) :
  ∃ ga cap, v = .slice (some ⟨ga, 0, none⟩) xs.length cap ∧ base ≤ ga ∧ ga < W.heap.size ∧ xs.length ≤ cap ∧ cap ≤ maxLen ∧ ∀ j, j < xs.length → W.cell? ⟨ga, j, none⟩ = some (.int .i64 (rd xs (j : Int))) := by
 have ho := Kd.own_of_R h;rcases ho.2 with ⟨_, h0⟩ | ⟨g, cap, cur, rfl, hb, hg, hnc, hcm, hcs, ht⟩
 · omega
 refine ⟨g, cap, rfl, hb, blk_lt hg, hnc, hcm, fun j hj => ?_⟩;have := ho.cellAt j (by omega);rw [this];unfold encs rd;simp [List.getD_eq_getElem?_getD, List.getElem?_eq_getElem hj]
theorem cell_al {W : World} {a : Addr} {v : Value} (o : Obj) (h : W.cell? a = some v) : (W.alloc o).cell? a = some v := (((Below.refl _ W).alloc (Nat.le_refl _) o).cell (World.block_lt_of_cell? _ _ h)).trans h
theorem less_step {N n m : Nat} (h : 0 < m) (hN : n + m ≤ N) : N - (intOf (Value.int .i64 ((n + m : Nat) : Int))).toNat < N - (intOf (Value.int .i64 (n : Int))).toNat := by
 have e1 : (intOf (Value.int .i64 ((n + m : Nat) : Int))).toNat = n + m := Int.toNat_natCast _;have e2 : (intOf (Value.int .i64 (n : Int))).toNat = n := Int.toNat_natCast _;rw [e1, e2]; omega
def rightN (x : S61) : Bool := decide (0 ≤ x.f0) && (decide (x.f0 ≤ x.f1) && (decide (x.f1 ≤ 1114111) && ((x.f3 == 0 || x.f3 == 1) && (decide (0 ≤ x.f2) && (decide (x.f2 ≤ 65535) && decide (x.f2 + x.f3 * (x.f1 - x.f0) ≤ 65535))))))
theorem glyph_bound {a b c : Int} (h0 : 0 ≤ a) (h1 : a ≤ b) (h2 : b ≤ 1114111) (h3 : 0 ≤ c) (h4 : c ≤ 65535) (s : Int) (hs : s = 0 ∨ s = 1) : wrap64 (c + wrap64 (s * wrap64 (b - a))) = c + s * (b - a) := by
 have e1 : wrap64 (b - a) = b - a := by unfold wrap64; omega
 rw [e1];rcases hs with rfl | rfl
 ·
  rw [Int.zero_mul];unfold wrap64; omega
 rw [Int.one_mul];unfold wrap64; omega
theorem right_some (x : S61) : chart_span_right.f x.f0 x.f1 x.f2 x.f3 = some (rightN x) := by
 obtain ⟨a, b, c, s⟩ := x;unfold chart_span_right.f rightN;simp only;by_cases h1 : 0 ≤ a
 ·
  rw [if_pos h1, decide_eq_true h1, Bool.true_and];by_cases h2 : a ≤ b
  ·
   rw [if_pos h2, decide_eq_true h2, Bool.true_and];by_cases h3 : b ≤ 1114111
   ·
    rw [if_pos h3, decide_eq_true h3, Bool.true_and]
    have hg : ∀ (hs : s = 0 ∨ s = 1), (if c ≥ 0 then (if c ≤ 65535 then ((chart_span_glyph.f a b c s b).bind fun t => (some (decide (t ≤ 65535)))) else (some false)) else (some false)) = some (decide (0 ≤ c) && (decide (c ≤ 65535) && decide (c + s * (b - a) ≤ 65535))) := fun hs => by
     by_cases h4 : 0 ≤ c
     ·
      rw [if_pos h4, decide_eq_true h4, Bool.true_and];by_cases h5 : c ≤ 65535
      ·
       rw [if_pos h5, decide_eq_true h5, Bool.true_and];unfold chart_span_glyph.f;rw [Option.bind_some, glyph_bound h1 h2 h3 h4 h5 s hs]
      rw [if_neg h5, decide_eq_false h5, Bool.false_and]
     rw [if_neg h4, decide_eq_false h4, Bool.false_and]
    by_cases h6 : s = 0
    · rw [if_pos h6, hg (.inl h6), show (s == 0) = true from beq_iff_eq.2 h6, Bool.true_or, Bool.true_and]
    rw [if_neg h6, show (s == 0) = false from beq_eq_false_iff_ne.2 h6, Bool.false_or];by_cases h7 : s = 1
    · rw [if_pos h7, hg (.inr h7), show (s == 1) = true from beq_iff_eq.2 h7, Bool.true_and]
    rw [if_neg h7, show (s == 1) = false from beq_eq_false_iff_ne.2 h7, Bool.false_and]
   rw [if_neg h3, decide_eq_false h3, Bool.false_and]
  rw [if_neg h2, decide_eq_false h2, Bool.false_and]
 rw [if_neg h1, decide_eq_false h1, Bool.false_and]
def ordN : List S61 → Bool
 | [] => true
 | [_] => true
 | x :: y :: r => decide (x.f1 < y.f0) && ordN (y :: r)
def isL (l : List S61) : Bool := decide (l.length ≤ 65536) && (l.all rightN && ordN l)
theorem all1_calls (q : Addr) (x : S61) (w : World) (hq : w.cell? q = some (.func (.func 68) #[] #[])) :
  Calls Tryz.prog 100 #[.agg #[.int .i64 x.f0, .int .i64 x.f1, .int .i64 x.f2, .int .i64 x.f3], .pointer (some q)] w fun e w' => e = .returned (.bool (!rightN x)) ∧ Below w.heap.size w w' := by
 have HB := aK (Below.refl w.heap.size w);have hq1 := cell_al (.cells #[.int .i64 x.f0, .int .i64 x.f1, .int .i64 x.f2, .int .i64 x.f3] 61) hq;go_enter Tryz.func100, Tryz.ntmps100;go_wp2_with fail
 refine (chart_span_right.calls x.f0 x.f1 x.f2 x.f3 _ _ (right_some x)).mono ?_;rintro e w8 ⟨rfl, hb⟩;have HB2 := hI (((Below.refl w.heap.size w).alloc (Nat.le_refl _) _).trans (hb.mono (by simp)));clear hb;go_wp2;go_ret;exact ⟨rfl, HB2.out⟩
def idxN (p : S61 → Bool) : List S61 → Nat → Int
 | [], _ => -1
 | x :: l, i => if p x = true then (i : Int) else idxN p l (i + 1)
theorem idx_yes (p : S61 → Bool) (x : S61) (l : List S61) (i : Nat) (h : p x = false) : idxN p (x :: l) i = idxN p l (i + 1) := by
 conv => lhs; unfold idxN
 rw [if_neg (by rw [h]; exact Bool.false_ne_true)]
theorem idx_no (p : S61 → Bool) (x : S61) (l : List S61) (i : Nat) (h : p x = true) : idxN p (x :: l) i = (i : Int) := by
 conv => lhs; unfold idxN
 rw [if_pos h]
theorem idx_any (p : S61 → Bool) : ∀ (l : List S61) (i : Nat), decide (0 ≤ idxN p l i) = l.any p
 | [], i => rfl
 | x :: l, i => by
  rw [List.any_cons];cases h : p x with
  | true => rw [idx_no p x l i h]; simp
  | false => rw [idx_yes p x l i h, idx_any p l (i + 1)]; rfl
def EntersK (K : Nat) : Prop := ∀ (xs : Array Value) (W : World), Sem.run Tryz.prog (callFunc K xs) W = .ok (.enter K xs) W
theorem entersK_of {K : Nat} {F : Func} (hf : Tryz.prog.funcs[K]? = some F) (hn : (F.name == "runtime.NumGoroutine") = false) (hb : F.body.isNone = false) : EntersK K := fun xs W => by
 have h1 : ¬ F.name = "runtime.NumGoroutine" := beq_eq_false_iff_ne.1 hn;have h2 : ¬ F.body = none := fun e => by rw [e] at hb; exact absurd hb (by decide)
 simp [callFunc, go_sem, hf]
 rw [if_neg h1, if_neg h2]
theorem enters_all1 : EntersK 100 := entersK_of Tryz.func100 (by kernel_rfl) (by kernel_rfl)
def Tests (K : Nat) (fr : Array Value) (p : S61 → Bool) (w0 : World) : Prop := ∀ (x : S61) (W : World), Below w0.heap.size w0 W → Calls Tryz.prog K (#[.agg #[.int .i64 x.f0, .int .i64 x.f1, .int .i64 x.f2, .int .i64 x.f3]] ++ fr) W fun e w' => e = .returned (.bool (p x)) ∧ Below W.heap.size W w'
theorem index_calls (K : Nat) (fr : Array Value) (p : S61 → Bool) (A0 : Option Addr) (c0 : Nat) (l : List S61) (w : World) (hr0 : Kd.C k61 w A0 l.length l) (hp : Tests K fr p w) (he : EntersK K) :
  Calls Tryz.prog 108 #[.slice A0 l.length c0, .func (.func K) #[] fr] w fun e w' => e = .returned (.int .i64 (idxN p l 0)) ∧ Below w.heap.size w w' := by
 have hl := Kd.C_max hr0;have HR0 := hI hr0;have HL := hI hl;have HP := hI hp;unfold EntersK at he;clear hr0 hl hp;go_enter Tryz.func108, Tryz.ntmps108;go_wp2_with fail
 go_loopw [8] (fun v8 wr => ∃ (i : Nat), i ≤ l.length ∧ v8 = .int .i64 (i : Int) ∧ Aside0 (Below w.heap.size w wr) ∧ Aside0 (idxN p (l.drop i) i = idxN p l 0)) (fun v8 _ => l.length - (intOf v8).toNat)
 case atStart => exact ⟨0, by omega, rfl, ⟨Below.refl _ _⟩, ⟨rfl⟩⟩
 case round =>
  obtain ⟨i, hi, rfl, HB, HI⟩ := hrel;by_cases hlt : i < l.length
  ·
   have q0 : (0 : Int) ≤ (i : Int) := by omega
   have q1 : (i : Int) < (l.length : Int) := by omega
   have d1 : decide ((i : Int) < (l.length : Int)) = true := decide_eq_true q1;have hwi : wrap64 ((i : Int) + 1) = ((i + 1 : Nat) : Int) := by have := HL.out; unfold wrap64; omega
   obtain ⟨ad, rfl, x0, x1, x2, x3⟩ := at_T61 HR0.out (i : Int) q0 q1;obtain ⟨x, hx⟩ : ∃ x, x = rd_T61 l (i : Int) := ⟨_, rfl⟩;rw [← hx] at x0 x1 x2 x3;rw [Int.toNat_natCast] at x0 x1 x2 x3;replace x0 := kM HB.out x0;replace x1 := kM HB.out x1;replace x2 := kM HB.out x2;replace x3 := kM HB.out x3;have hdr : l.drop i = x :: l.drop (i + 1) := by rw [List.drop_eq_getElem_cons hlt, hx]; unfold rd_T61; simp [List.getD_eq_getElem?_getD, List.getElem?_eq_getElem hlt]
   have HDR := hI hdr;clear hdr hx;replace q0 := eq_true q0;replace q1 := eq_true q1;go_wp2_with fail
   refine (HP.out x _ HB.out).mono ?_;rintro e w1 ⟨rfl, hb⟩;have HB2 := hI (HB.out.trans (hb.mono HB.out.size));clear hb;cases hq : p x with
   | false =>
    have HN := hI (show idxN p (l.drop (i + 1)) (i + 1) = idxN p l 0 by
     have := HI.out;rw [HDR.out, idx_yes p x _ i hq] at this;exact this)
    clear hq;go_wp2;go_roundw
    case rel => exact ⟨i + 1, hlt, by rw [hwi], ⟨HB2.out⟩, ⟨HN.out⟩⟩
    case measure => rw [hwi]; exact less_step (by decide) hlt
   | true =>
    have hres : idxN p l 0 = (i : Int) := by
     rw [← HI.out, HDR.out, idx_no p x _ i hq]
    have HRE := hI hres;clear hq hres;go_wp2;go_ret;rw [HRE.out];exact ⟨rfl, HB2.out⟩
  have hie : i = l.length := by omega
  have d1 : decide ((i : Int) < (l.length : Int)) = false := decide_eq_false (by omega);have hres : idxN p l 0 = -1 := by rw [← HI.out, hie, List.drop_length]; rfl
  have HRE := hI hres;clear hie hres;go_wp2;go_ret;rw [HRE.out];exact ⟨rfl, HB.out⟩
theorem contains_calls (K : Nat) (fr : Array Value) (p : S61 → Bool) (A0 : Option Addr) (c0 : Nat) (l : List S61) (w : World) (hr0 : Kd.C k61 w A0 l.length l) (hp : Tests K fr p w) (he : EntersK K) :
  Calls Tryz.prog 99 #[.slice A0 l.length c0, .func (.func K) #[] fr] w fun e w' => e = .returned (.bool (l.any p)) ∧ Below w.heap.size w w' := by
 have H := hI (index_calls K fr p A0 c0 l w hr0 hp he);have HI := hI (idx_any p l 0);clear hr0 hp;go_enter Tryz.func99, Tryz.ntmps99;go_wp2_with fail
 refine H.out.mono ?_;rintro e w1 ⟨rfl, hb⟩;obtain ⟨j, hj⟩ : ∃ j, j = idxN p l 0 := ⟨_, rfl⟩;have HI2 := hI (show l.any p = decide (0 ≤ j) by rw [hj]; exact HI.out.symm);rw [← hj];have HBB := hI hb;clear H HI hj hb;go_wp2;go_ret;rw [HI2.out];exact ⟨rfl, HBB.out⟩
theorem all_calls (A0 : Option Addr) (c0 : Nat) (l : List S61) (w : World) (hr0 : Kd.C k61 w A0 l.length l) :
  Calls Tryz.prog 67 #[.slice A0 l.length c0, .func (.func 68) #[] #[]] w fun e w' => e = .returned (.bool (l.all rightN)) ∧ Below w.heap.size w w' := by
 have hb0 := (Below.refl w.heap.size w).alloc (Nat.le_refl _) (.cells #[.func (.func 68) #[] #[]] 90);have hc : (w.alloc (.cells #[.func (.func 68) #[] #[]] 90)).cell? ⟨w.heap.size, 0, none⟩ = some (.func (.func 68) #[] #[]) := by simp [go_sem]
 have H := hI (contains_calls 100 #[.pointer (some ⟨w.heap.size, 0, none⟩)] (fun x => !rightN x) A0 c0 l (w.alloc (.cells #[.func (.func 68) #[] #[]] 90)) (Kd.C_alloc hr0 _)
  (fun x W hW => all1_calls ⟨w.heap.size, 0, none⟩ x W ((hW.cell (World.block_lt_of_cell? _ _ hc)).trans hc)) enters_all1)
 have HB0 := hI hb0;have HA := hI (show (!(l.any fun x => !rightN x)) = l.all rightN by rw [List.not_any_eq_all_not]; simp);clear hr0 hb0 hc;go_enter Tryz.func67, Tryz.ntmps67;go_wp2_with fail
 refine H.out.mono ?_;rintro e w1 ⟨rfl, hb⟩;obtain ⟨j, hj⟩ : ∃ j, j = l.any (fun x => !rightN x) := ⟨_, rfl⟩;have HBB := hI (HB0.out.trans (hb.mono HB0.out.size));rw [← hj] at HA ⊢;clear H hj hb;go_wp2;go_ret;rw [← HA.out];exact ⟨rfl, HBB.out⟩
theorem ord_step (x y : S61) (r : List S61) : ordN (x :: y :: r) = (decide (x.f1 < y.f0) && ordN (y :: r)) := by
 conv => lhs; unfold ordN
theorem ord_at (l : List S61) (i : Nat) (h : i + 1 < l.length) : ordN (l.drop i) = (decide (l[i].f1 < l[i + 1].f0) && ordN (l.drop (i + 1))) := by
 rw [List.drop_eq_getElem_cons (by omega), List.drop_eq_getElem_cons h, ord_step]
theorem ord_last (l : List S61) (i : Nat) (h : i + 1 = l.length) : ordN (l.drop i) = true := by
 rw [List.drop_eq_getElem_cons (by omega), List.drop_eq_nil_of_le (by omega)];rfl
theorem chart_is_many (A0 : Option Addr) (c0 n : Nat) (w : World) (h : 65536 < n) (h2 : n ≤ 9223372036854775807) :
  Calls Tryz.prog 33 #[.slice A0 n c0] w fun e w' => e = .returned (.bool false) ∧ Below w.heap.size w w' := by
 have d2 : decide ((65536 : Int) < (n : Int)) = true := decide_eq_true (by omega);have d3 : decide (65536 < n) = true := decide_eq_true h;clear h h2;go_enter Tryz.func33, Tryz.ntmps33;go_wp2;go_ret;exact ⟨rfl, Below.refl _ _⟩
theorem chart_is_wrong (A0 : Option Addr) (c0 : Nat) (l : List S61) (w : World) (hr0 : Kd.C k61 w A0 l.length l) (hl : l.length ≤ 65536) (ha : l.all rightN = false) :
  Calls Tryz.prog 33 #[.slice A0 l.length c0] w fun e w' => e = .returned (.bool false) ∧ Below w.heap.size w w' := by
 have d2 : decide ((65536 : Int) < (l.length : Int)) = false := decide_eq_false (by omega);have d3 : decide (65536 < l.length) = false := decide_eq_false (by omega);have H := hI (all_calls A0 c0 l w hr0);rw [ha] at H;clear ha hr0 hl;go_enter Tryz.func33, Tryz.ntmps33;go_wp2_with fail
 refine H.out.mono ?_;rintro e w1 ⟨rfl, hb⟩;have HB := hI hb;clear hb H;go_wp2;go_ret;exact ⟨rfl, HB.out⟩
theorem chart_is_walk (A0 : Option Addr) (c0 : Nat) (l : List S61) (w : World) (hr0 : Kd.C k61 w A0 l.length l) (hl : l.length ≤ 65536) (ha : l.all rightN = true) (r : Bool) (hr : ordN l = r) :
  Calls Tryz.prog 33 #[.slice A0 l.length c0] w fun e w' => e = .returned (.bool r) ∧ Below w.heap.size w w' := by
 have d2 : decide ((65536 : Int) < (l.length : Int)) = false := decide_eq_false (by omega);have d3 : decide (65536 < l.length) = false := decide_eq_false (by omega);have H := hI (all_calls A0 c0 l w hr0);rw [ha] at H;have HR0 := hI hr0;have HR := hI hr;have HL := hI hl;clear ha hr0 hl hr;go_enter Tryz.func33, Tryz.ntmps33;go_wp2_with fail
 refine H.out.mono ?_;rintro e w1 ⟨rfl, hb⟩;have HB1 := hI hb;clear hb H;go_wp2;go_loopw [14] (fun v14 wr => ∃ (i : Nat), i ≤ l.length ∧ v14 = .int .i64 (i : Int) ∧ Aside0 (Below w.heap.size w wr) ∧ Aside0 (ordN (l.drop (i - 1)) = r)) (fun v14 _ => l.length - (intOf v14).toNat)
 case atStart => exact ⟨0, by omega, rfl, ⟨HB1.out⟩, ⟨by simpa using HR.out⟩⟩
 case round =>
  obtain ⟨i, hi, rfl, HB, HI⟩ := hrel;by_cases hlt : i < l.length
  ·
   have q0 : (0 : Int) ≤ (i : Int) := by omega
   have q1 : (i : Int) < (l.length : Int) := by omega
   have d1 : decide ((i : Int) < (l.length : Int)) = true := decide_eq_true q1;have hwi : wrap64 ((i : Int) + 1) = ((i + 1 : Nat) : Int) := by have := HL.out; unfold wrap64; omega
   by_cases h0 : i = 0
   ·
    have d4 : decide ((0 : Int) < (i : Int)) = false := decide_eq_false (by omega);have d5 : decide (0 < i) = false := decide_eq_false (by omega);have HN := hI (show ordN (l.drop (i + 1 - 1)) = r by have := HI.out; rw [h0] at this ⊢; exact this);clear h0 q0 q1;go_wp2_with fail
    go_quiet (fail)
    go_wp2;go_roundw
    case rel => exact ⟨i + 1, hlt, by rw [hwi], ⟨pw_below_drewN HB.out _⟩, ⟨HN.out⟩⟩
    case measure => rw [hwi]; exact less_step (by decide) hlt
   have d4 : decide ((0 : Int) < (i : Int)) = true := decide_eq_true (by omega);have d5 : decide (0 < i) = true := decide_eq_true (by omega);have hw1 : wrap64 ((i : Int) - 1) = ((i - 1 : Nat) : Int) := by have := HL.out; unfold wrap64; omega
   obtain ⟨j, hj⟩ : ∃ j, j = i - 1 := ⟨_, rfl⟩;rw [← hj] at hw1 HI;have p0 : (0 : Int) ≤ (j : Int) := by omega
   have p1 : (j : Int) < (l.length : Int) := by omega
   obtain ⟨ad, rfl, x0, x1, x2, x3⟩ := at_T61 HR0.out (i : Int) q0 q1;obtain ⟨_, e, y0, y1, y2, y3⟩ := at_T61 HR0.out (j : Int) p0 p1;cases e
   have hxi : rd_T61 l (i : Int) = l[i] := by unfold rd_T61; simp [List.getD_eq_getElem?_getD, List.getElem?_eq_getElem hlt]
   have hjl : j < l.length := by omega
   have hyj : rd_T61 l (j : Int) = l[j] := by unfold rd_T61; simp [List.getD_eq_getElem?_getD, List.getElem?_eq_getElem hjl]
   have hstep : ordN (l.drop j) = (decide (l[j].f1 < l[i].f0) && ordN (l.drop i)) := by
    have := ord_at l j (by omega);have e : j + 1 = i := by omega
    simp only [e] at this;exact this
   rw [hxi] at x0 x1 x2 x3;rw [hyj] at y0 y1 y2 y3;obtain ⟨x, hx⟩ : ∃ x, x = l[i] := ⟨_, rfl⟩;obtain ⟨y, hy⟩ : ∃ y, y = l[j] := ⟨_, rfl⟩;rw [← hx] at x0 hstep;rw [← hy] at y1 hstep;rw [Int.toNat_natCast] at x0 y1;replace x0 := kM HB.out x0;replace y1 := kM HB.out y1;rw [hstep] at HI;clear hxi hyj hstep hx hy x1 x2 x3 y0 y2 y3 h0 hj hjl;replace q0 := eq_true q0;replace q1 := eq_true q1;replace p0 := eq_true p0;replace p1 := eq_true p1;by_cases hle : x.f0 ≤ y.f1
   ·
    have d6 : decide (x.f0 ≤ y.f1) = true := decide_eq_true hle;have d7 : decide (y.f1 < x.f0) = false := decide_eq_false (by omega);rw [d7, Bool.false_and] at HI;have HRE := hI HI.out;clear hle d7 HI;go_wp2_with fail
    go_quiet (fail)
    go_wp2;go_ret;rw [HRE.out];exact ⟨rfl, pw_below_drewN HB.out _⟩
   have d6 : decide (x.f0 ≤ y.f1) = false := decide_eq_false hle;have d7 : decide (y.f1 < x.f0) = true := decide_eq_true (by omega);rw [d7, Bool.true_and] at HI;have HRE := hI (show ordN (l.drop (i + 1 - 1)) = r from HI.out);clear hle d7 HI;go_wp2_with fail
   go_quiet (fail)
   go_wp2;go_roundw
   case rel => exact ⟨i + 1, hlt, by rw [hwi], ⟨pw_below_drewN HB.out _⟩, ⟨HRE.out⟩⟩
   case measure => rw [hwi]; exact less_step (by decide) hlt
  have hie : i = l.length := by omega
  have d1 : decide ((i : Int) < (l.length : Int)) = false := decide_eq_false (by omega)
  have hres : r = true := by
   rw [← HI.out];by_cases h0 : l.length = 0
   · rw [List.length_eq_zero_iff.1 h0]; simp; rfl
   exact ord_last l (i - 1) (by omega)
  have HRE := hI hres;clear hie hres;go_wp2;go_ret;rw [HRE.out];exact ⟨rfl, HB.out⟩
def chart_Is.f (l0 : List S61) : Option Bool := some (isL l0)
theorem chart_Is.calls (A0 : Option Addr) (c0 : Nat) (l0 : List S61) (r : Bool) (w : World) (hr0 : Kd.C k61 w A0 l0.length l0) (hc0 : l0.length ≤ c0) (h : chart_Is.f l0 = some r) :
  Calls Tryz.prog 33 #[.slice A0 l0.length c0] w fun e w' => e = .returned (.bool r) ∧ Below w.heap.size w w' := by
 have hr := Option.some.inj h;unfold isL at hr;by_cases h1 : l0.length ≤ 65536
 ·
  rw [decide_eq_true h1, Bool.true_and] at hr;cases ha : l0.all rightN with
  | true => rw [ha, Bool.true_and] at hr; exact chart_is_walk A0 c0 l0 w hr0 h1 ha r hr
  | false => rw [ha, Bool.false_and] at hr; rw [← hr]; exact chart_is_wrong A0 c0 l0 w hr0 h1 ha
 rw [decide_eq_false h1, Bool.false_and] at hr;rw [← hr];exact chart_is_many A0 c0 l0.length w (by omega) (Kd.C_max hr0)
attribute [local go_sem] max2_int min2_int max_two min_two max_three min_three max_four min_four
def chart_look_1.f (a0_0 : Int) (a0_1 : Int) (a0_2 : Int) (a0_3 : Int) (a1 : Int) : Option (Int) := if a0_1 < a1 then (some (-1)) else (if a0_0 > a1 then (some 1) else (some 0))
theorem chart_look_1.calls (a0_0 : Int) (a0_1 : Int) (a0_2 : Int) (a0_3 : Int) (a1 : Int) (r : Int) (w : World) (h : chart_look_1.f a0_0 a0_1 a0_2 a0_3 a1 = some r) :
  Calls Tryz.prog 103 #[.agg #[.int .i64 a0_0, .int .i64 a0_1, .int .i64 a0_2, .int .i64 a0_3], .int .i64 a1] w fun e w' => e = .returned (.int .i64 r) ∧ Below w.heap.size w w' := by
 have hu61 := Tryz.underlying61;have HB := aK (Below.refl w.heap.size w);have H : (if a0_1 < a1 then (some (-1)) else (if a0_0 > a1 then (some 1) else (some 0))) = some r := h;clear h;replace H := qL H;rcases H with ⟨c3b0, H⟩ | ⟨c3b0, H⟩
 ·
  obtain rfl := Option.some.inj H;go_enter Tryz.func103, Tryz.ntmps103;go_wp2_with (first | ((with_reducible refine gate_dst (N := 2) rfl ?_); refine box4 2 61 a0_0 a0_1 a0_2 a0_3 ?_; clear HB; intro gb527 w4 BK527 GW527 GE527 HB hcz5_0 hcz5_1 hcz5_2 hcz5_3 hfz5_0 hfz5_1 hfz5_2 hfz5_3))
  go_ret;exact ⟨eA, bG GE527.out⟩
 replace H := qM H;rcases H with ⟨c6b0, H⟩ | ⟨c6b0, H⟩
 ·
  obtain rfl := Option.some.inj H;go_enter Tryz.func103, Tryz.ntmps103;go_wp2_with (first | ((with_reducible refine gate_dst (N := 2) rfl ?_); refine box4 2 61 a0_0 a0_1 a0_2 a0_3 ?_; clear HB; intro gb527 w7 BK527 GW527 GE527 HB hcz8_0 hcz8_1 hcz8_2 hcz8_3 hfz8_0 hfz8_1 hfz8_2 hfz8_3))
  go_ret;exact ⟨eA, bG GE527.out⟩
 obtain rfl := Option.some.inj H;go_enter Tryz.func103, Tryz.ntmps103;go_wp2_with (first | ((with_reducible refine gate_dst (N := 2) rfl ?_); refine box4 2 61 a0_0 a0_1 a0_2 a0_3 ?_; clear HB; intro gb527 w9 BK527 GW527 GE527 HB hcz10_0 hcz10_1 hcz10_2 hcz10_3 hfz10_0 hfz10_1 hfz10_2 hfz10_3))
 go_ret;exact ⟨eA, bG GE527.out⟩
end Go.Proofs.YtejdflndgnpkcaaGreat.P
end
section
namespace Go.Proofs.YtejdflndgnpkcaaGreat.P
open Go.RowKit PW PL PM
def atS (l : List S61) (i : Nat) : S61 := l.getD i z61
theorem rd_atS (l : List S61) (i : Nat) : rd_T61 l (i : Int) = atS l i := rfl
theorem atS_get (l : List S61) (i : Nat) (h : i < l.length) : atS l i = l[i] := by
 unfold atS;rw [List.getD_eq_getElem?_getD, List.getElem?_eq_getElem h]; rfl
def srch (l : List S61) (c : Int) : Nat → Nat → Nat → Nat
 | 0, i, _ => i
 | k + 1, i, j => if i < j then (if (atS l ((i + j) / 2)).f1 < c then srch l c k ((i + j) / 2 + 1) j else srch l c k i ((i + j) / 2)) else i
def cmpN (x : S61) (c : Int) : Int := if x.f1 < c then -1 else if x.f0 > c then 1 else 0
theorem cmp_some (x : S61) (c : Int) : chart_look_1.f x.f0 x.f1 x.f2 x.f3 c = some (cmpN x c) := by
 unfold chart_look_1.f cmpN;by_cases h : x.f1 < c
 · rw [if_pos h, if_pos h]
 rw [if_neg h, if_neg h];by_cases h2 : x.f0 > c
 · rw [if_pos h2, if_pos h2]
 rw [if_neg h2, if_neg h2]
theorem cmp_lt (x : S61) (c : Int) : decide (cmpN x c < 0) = decide (x.f1 < c) := by
 unfold cmpN;by_cases h : x.f1 < c
 · rw [if_pos h, decide_eq_true h]; rfl
 rw [if_neg h, decide_eq_false h];by_cases h2 : x.f0 > c
 · rw [if_pos h2]; rfl
 rw [if_neg h2]; rfl
def isAt (l : List S61) (c : Int) (i : Nat) : Bool := decide (i < l.length) && (cmpN (atS l i) c == 0)
def glyAt (x : S61) (c : Int) : Int := wrap64 (x.f2 + wrap64 (x.f3 * wrap64 (c - x.f0)))
def placeN (l : List S61) (c : Int) : Nat := srch l c l.length 0 l.length
def lookN (l : List S61) (c : Int) : Int := if isAt l c (placeN l c) = true then glyAt (atS l (placeN l c)) c else 0
theorem srch_step (l : List S61) (c : Int) (k i j : Nat) : srch l c (k + 1) i j = if i < j then (if (atS l ((i + j) / 2)).f1 < c then srch l c k ((i + j) / 2 + 1) j else srch l c k i ((i + j) / 2)) else i := rfl
theorem srch_done (l : List S61) (c : Int) (k i j : Nat) (h : ¬ i < j) : srch l c k i j = i := by
 cases k with
 | zero => rfl
 | succ k => rw [srch_step, if_neg h]
theorem srch_up (l : List S61) (c : Int) (k i j h : Nat) (hk : j ≤ i + (k + 1)) (hlt : i < j) (hh : h = (i + j) / 2) (hc : decide ((atS l h).f1 < c) = true) : srch l c (k + 1) i j = srch l c k (h + 1) j := by
 rw [srch_step, if_pos hlt, ← hh, if_pos (of_decide_eq_true hc)]
theorem srch_down (l : List S61) (c : Int) (k i j h : Nat) (hlt : i < j) (hh : h = (i + j) / 2) (hc : decide ((atS l h).f1 < c) = false) : srch l c (k + 1) i j = srch l c k i h := by
 rw [srch_step, if_pos hlt, ← hh, if_neg (of_decide_eq_false hc)]
def Goes (l : List S61) (c : Int) (i j r : Nat) : Prop := ∀ k, j - i ≤ k → srch l c k i j = r
theorem goes_all (l : List S61) (c : Int) : ∀ (d i j : Nat), j - i ≤ d → ∀ k, j - i ≤ k → srch l c k i j = srch l c d i j
 | 0, i, j, hd, k, hk => by rw [srch_done l c k i j (by omega), srch_done l c 0 i j (by omega)]
 | d + 1, i, j, hd, k, hk => by
  by_cases hlt : i < j
  ·
   obtain ⟨k, rfl⟩ : ∃ n, k = n + 1 := ⟨k - 1, by omega⟩;rw [srch_step, srch_step, if_pos hlt, if_pos hlt];split
   · exact goes_all l c d _ j (by omega) k (by omega)
   exact goes_all l c d i _ (by omega) k (by omega)
  rw [srch_done l c k i j hlt, srch_done l c (d + 1) i j hlt]
theorem goes_start (l : List S61) (c : Int) : Goes l c 0 l.length (placeN l c) := fun k hk => goes_all l c l.length 0 l.length (by omega) k hk
theorem goes_up {l : List S61} {c : Int} {i j r h : Nat} (H : Goes l c i j r) (hlt : i < j) (hh : h = (i + j) / 2) (hc : decide ((atS l h).f1 < c) = true) : Goes l c (h + 1) j r := fun k hk => by
 have := H (k + (j - i) + 1) (by omega);rw [srch_up l c _ i j h (by omega) hlt hh hc] at this;rw [← this];exact goes_all l c (k + (j - i)) (h + 1) j (by omega) k hk
theorem goes_down {l : List S61} {c : Int} {i j r h : Nat} (H : Goes l c i j r) (hlt : i < j) (hh : h = (i + j) / 2) (hc : decide ((atS l h).f1 < c) = false) : Goes l c i h r := fun k hk => by
 have := H (k + (j - i) + 1) (by omega);rw [srch_down l c _ i j h hlt hh hc] at this;rw [← this];exact goes_all l c (k + (j - i)) i h (by omega) k hk
theorem goes_end {l : List S61} {c : Int} {i j r : Nat} (H : Goes l c i j r) (h : ¬ i < j) : i = r := by
 have := H (j - i) (Nat.le_refl _);rwa [srch_done l c _ i j h] at this
theorem mid_of {i j h : Nat} (hs : i + j ≤ 131072) (hh : h = (i + j) / 2) : wrap64 (IntKind.u64.wrap (wrap64 ((i : Int) + (j : Int))) / 2) = (h : Int) := by
 have e0 : wrap64 ((i : Int) + (j : Int)) = (i : Int) + (j : Int) := by unfold wrap64; omega
 rw [e0]
 have e : IntKind.u64.wrap ((i : Int) + (j : Int)) = (i : Int) + (j : Int) := by
  unfold IntKind.wrap;simp [IntKind.bits, IntKind.signed]
  omega
 rw [e, hh];unfold wrap64; omega
theorem search_calls (A0 : Option Addr) (c0 : Nat) (l : List S61) (c : Int) (w : World) (hr0 : Kd.C k61 w A0 l.length l) (hl : l.length ≤ 65536) (r : Nat) (hr : placeN l c = r) :
  Calls Tryz.prog 102 #[.slice A0 l.length c0, .int .i64 c, .func (.func 103) #[] #[]] w fun e w' => e = .returned (.tuple #[.int .i64 (r : Int), .bool (isAt l c r)]) ∧ Below w.heap.size w w' := by
 have HR0 := hI hr0;have HL := hI hl;have HS := hI (show Goes l c 0 l.length r by rw [← hr]; exact goes_start l c);clear hr0 hl hr;go_enter Tryz.func102, Tryz.ntmps102;go_wp2_with fail
 go_loopw [9, 10] (fun v9 v10 wr => ∃ (i j : Nat), i ≤ l.length ∧ j ≤ l.length ∧ v9 = .int .i64 (i : Int) ∧ v10 = .int .i64 (j : Int) ∧ Aside0 (i ≤ j) ∧ Aside0 (Below w.heap.size w wr) ∧ Aside0 (Goes l c i j r)) (fun v9 v10 _ => (intOf v10 - intOf v9).toNat)
 case atStart => exact ⟨0, l.length, by omega, by omega, rfl, rfl, ⟨by omega⟩, ⟨Below.refl _ _⟩, ⟨HS.out⟩⟩
 case round =>
  obtain ⟨i, j, hi, hj, rfl, rfl, HIJ, HB, HG⟩ := hrel;by_cases hlt : i < j
  ·
   have d1 : decide ((i : Int) < (j : Int)) = true := decide_eq_true (by omega);have d2 : decide (i < j) = true := decide_eq_true hlt;obtain ⟨h, hh⟩ : ∃ h, h = (i + j) / 2 := ⟨_, rfl⟩;have hm := mid_of (i := i) (j := j) (by have := HL.out; omega) hh;have p0 : (0 : Int) ≤ (h : Int) := by omega
   have p1 : (h : Int) < (l.length : Int) := by omega
   have hw : wrap64 ((h : Int) + 1) = ((h + 1 : Nat) : Int) := by have := HL.out; unfold wrap64; omega
   obtain ⟨ad, rfl, x0, x1, x2, x3⟩ := at_T61 HR0.out (h : Int) p0 p1;rw [rd_atS] at x0 x1 x2 x3;obtain ⟨x, hx⟩ : ∃ x, x = atS l h := ⟨_, rfl⟩;rw [← hx] at x0 x1 x2 x3;rw [Int.toNat_natCast] at x0 x1 x2 x3;replace x0 := kM HB.out x0;replace x1 := kM HB.out x1;replace x2 := kM HB.out x2;replace x3 := kM HB.out x3;have HH := hI hh;have HX := hI hx;have HLT := hI hlt;have HHJ := hI (show h < j ∧ i ≤ h by omega);clear hh hx hlt;replace p0 := eq_true p0;replace p1 := eq_true p1;go_wp2_with fail
   refine (chart_look_1.calls x.f0 x.f1 x.f2 x.f3 c (cmpN x c) _ (cmp_some x c)).mono ?_;rintro e w1 ⟨rfl, hb⟩;have HB2 := hI (HB.out.trans (hb.mono HB.out.size));obtain ⟨y, hy⟩ : ∃ y, y = cmpN x c := ⟨_, rfl⟩;rw [← hy];by_cases hc : x.f1 < c
   ·
    have d3 : decide (y < 0) = true := by rw [hy, cmp_lt]; exact decide_eq_true hc
    have HG2 := hI (goes_up HG.out HLT.out HH.out (by rw [← HX.out]; exact decide_eq_true hc));clear hb hy hc;go_wp2;go_roundw
    case rel => exact ⟨h + 1, j, by have := HHJ.out; omega, hj, by rw [hw], rfl, ⟨by have := HHJ.out; omega⟩, ⟨HB2.out⟩, ⟨HG2.out⟩⟩
    case measure => rw [hw]; have := HHJ.out; have := HLT.out; simp only [intOf]; omega
   have d3 : decide (y < 0) = false := by rw [hy, cmp_lt]; exact decide_eq_false hc
   have HG2 := hI (goes_down HG.out HLT.out HH.out (by rw [← HX.out]; exact decide_eq_false hc));clear hb hy hc;go_wp2;go_roundw
   case rel => exact ⟨i, h, hi, by have := HHJ.out; omega, rfl, rfl, ⟨by have := HHJ.out; omega⟩, ⟨HB2.out⟩, ⟨HG2.out⟩⟩
   case measure => have := HHJ.out; have := HLT.out; simp only [intOf]; omega
  have d1 : decide ((i : Int) < (j : Int)) = false := decide_eq_false (by omega);have d2 : decide (i < j) = false := decide_eq_false hlt;have hir : i = r := goes_end HG.out hlt;subst hir;by_cases hn : i < l.length
  ·
   have p0 : (0 : Int) ≤ (i : Int) := by omega
   have p1 : (i : Int) < (l.length : Int) := by omega
   have d3 : decide ((i : Int) < (l.length : Int)) = true := decide_eq_true p1;have d4 : decide (i < l.length) = true := decide_eq_true hn;obtain ⟨ad, rfl, x0, x1, x2, x3⟩ := at_T61 HR0.out (i : Int) p0 p1;rw [rd_atS] at x0 x1 x2 x3;obtain ⟨x, hx⟩ : ∃ x, x = atS l i := ⟨_, rfl⟩;rw [← hx] at x0 x1 x2 x3;rw [Int.toNat_natCast] at x0 x1 x2 x3;replace x0 := kM HB.out x0;replace x1 := kM HB.out x1;replace x2 := kM HB.out x2;replace x3 := kM HB.out x3;have HRE := hI (show isAt l c i = (cmpN x c == 0) by unfold isAt; rw [decide_eq_true hn, Bool.true_and, hx]);clear hx hn;replace p0 := eq_true p0;replace p1 := eq_true p1;go_wp2_with fail
   refine (chart_look_1.calls x.f0 x.f1 x.f2 x.f3 c (cmpN x c) _ (cmp_some x c)).mono ?_;rintro e w1 ⟨rfl, hb⟩;have HB2 := hI (HB.out.trans (hb.mono HB.out.size));obtain ⟨y, hy⟩ : ∃ y, y = cmpN x c := ⟨_, rfl⟩;rw [← hy] at HRE ⊢;clear hb hy;go_wp2;go_ret2;rw [HRE.out];exact ⟨rfl, HB2.out⟩
  have d3 : decide ((i : Int) < (l.length : Int)) = false := decide_eq_false (by omega);have d4 : decide (i < l.length) = false := decide_eq_false hn;have HRE := hI (show isAt l c i = false by unfold isAt; rw [decide_eq_false hn, Bool.false_and]);clear hn;go_wp2;go_ret2;rw [HRE.out];exact ⟨rfl, HB.out⟩
theorem isAt_in {l : List S61} {c : Int} {i : Nat} (h : isAt l c i = true) : i < l.length := by
 unfold isAt at h;rw [Bool.and_eq_true] at h;exact of_decide_eq_true h.1
theorem look_walk (A0 : Option Addr) (c0 : Nat) (l : List S61) (c : Int) (w : World) (hr0 : Kd.C k61 w A0 l.length l) (hl : l.length ≤ 65536) (r : Int) (hr : lookN l c = r) :
  Calls Tryz.prog 69 #[.slice A0 l.length c0, .int .i64 c] w fun e w' => e = .returned (.int .i64 r) ∧ Below w.heap.size w w' := by
 obtain ⟨i, hi⟩ : ∃ i, i = placeN l c := ⟨_, rfl⟩;have H := hI (search_calls A0 c0 l c w hr0 hl i hi.symm);have hr' : (if isAt l c i = true then glyAt (atS l i) c else 0) = r := by rw [← hr, hi]; rfl
 obtain ⟨b, hb⟩ : ∃ b, b = isAt l c i := ⟨_, rfl⟩;have hin : b = true → i < l.length := fun h => isAt_in (hb.symm.trans h)
 rw [← hb] at hr' H;have HR0 := hI hr0;clear hi hr hb hr0 hl;cases b with
 | false =>
  rw [if_neg Bool.false_ne_true] at hr';have HRE := hI hr';clear hr' hin;go_enter Tryz.func69, Tryz.ntmps69;go_wp2_with fail
  refine H.out.mono ?_;rintro e w1 ⟨rfl, hb⟩;have HB := hI hb;clear hb H;go_wp2;go_ret;rw [← HRE.out];exact ⟨rfl, HB.out⟩
 | true =>
  rw [if_pos rfl] at hr';have hn := hin rfl;have p0 : (0 : Int) ≤ (i : Int) := by omega
  have p1 : (i : Int) < (l.length : Int) := by omega
  obtain ⟨ad, rfl, x0, x1, x2, x3⟩ := at_T61 HR0.out (i : Int) p0 p1;rw [rd_atS] at x0 x1 x2 x3;obtain ⟨x, hx⟩ : ∃ x, x = atS l i := ⟨_, rfl⟩;rw [← hx] at x0 x1 x2 x3 hr';rw [Int.toNat_natCast] at x0 x1 x2 x3;have HRE := hI hr';clear hr' hin hn hx;replace p0 := eq_true p0;replace p1 := eq_true p1;go_enter Tryz.func69, Tryz.ntmps69;go_wp2_with fail
  refine H.out.mono ?_;rintro e w1 ⟨rfl, hb⟩;have HB := hI hb;replace x0 := kM hb x0;replace x1 := kM hb x1;replace x2 := kM hb x2;replace x3 := kM hb x3;clear hb H;go_wp2_with fail
  refine (chart_span_glyph.calls x.f0 x.f1 x.f2 x.f3 c (glyAt x c) _ rfl).mono ?_;rintro e w2 ⟨rfl, hb⟩;have HB2 := hI (HB.out.trans (hb.mono HB.out.size));obtain ⟨y, hy⟩ : ∃ y, y = glyAt x c := ⟨_, rfl⟩;rw [← hy] at HRE ⊢;clear hb hy;go_wp2;go_ret;rw [HRE.out];exact ⟨rfl, HB2.out⟩
def chart_look.f (l0 : List S61) (a1 : Int) : Option Int := if l0.length ≤ 65536 then some (lookN l0 a1) else none
theorem chart_look.calls (A0 : Option Addr) (c0 : Nat) (l0 : List S61) (a1 : Int) (r : Int) (w : World) (hr0 : Kd.C k61 w A0 l0.length l0) (hc0 : l0.length ≤ c0) (h : chart_look.f l0 a1 = some r) :
  Calls Tryz.prog 69 #[.slice A0 l0.length c0, .int .i64 a1] w fun e w' => e = .returned (.int .i64 r) ∧ Below w.heap.size w w' := by
 unfold chart_look.f at h;split at h
 ·
  rename_i hl
  exact look_walk A0 c0 l0 a1 w hr0 hl r (Option.some.inj h)
 exact absurd h (by simp)
attribute [local go_sem] max2_int min2_int max_two min_two max_three min_three max_four min_four
def chart_Look.f (l0 : List (S61)) (a1 : Int) : Option (Int) := (chart_Is.f l0).bind fun t476 => (if t476 = true then ((chart_look.f l0 a1).bind fun t477 => (some t477)) else (some 0))
theorem chart_Look.calls (A0 : Option Addr) (c0 : Nat) (l0 : List (S61)) (a1 : Int) (r : Int) (w : World) (hr0 : Kd.C k61 w A0 l0.length l0) (hc0 : l0.length ≤ c0) (h : chart_Look.f l0 a1 = some r) :
  Calls Tryz.prog 34 #[.slice A0 l0.length c0, .int .i64 a1] w fun e w' => e = .returned (.int .i64 r) ∧ Below w.heap.size w w' := by
 have HR0 := aK hr0;have HC0 := aK hc0;clear hr0 hc0;have HB := aK (Below.refl w.heap.size w);have H : ((chart_Is.f l0).bind fun t476 => (if t476 = true then ((chart_look.f l0 a1).bind fun t477 => (some t477)) else (some 0))) = some r := h;clear h;replace H := qS H;obtain ⟨t476, A3, H⟩ := H;replace H := qB H;rcases H with ⟨rfl, H⟩ | ⟨rfl, H⟩
 ·
  replace H := qS H;obtain ⟨t477, A5, H⟩ := H;obtain rfl := Option.some.inj H;go_enter Tryz.func34, Tryz.ntmps34;go_wp2_with (first | ((with_reducible refine gate_callee (f := 33) rfl ?_); refine gB_ 6 Tryz.func33 (chart_Is.calls _ _ l0 true _ ?side1 ?side2 A3.out) ?_; (case side1 => exact cA HR0.out); (case side2 => exact HC0.out); clear HB; intro w6 hb HB; clear hb) | ((with_reducible refine gate_callee (f := 69) rfl ?_); refine gB_ 10 Tryz.func69 (chart_look.calls _ _ l0 a1 t477 _ ?side1 ?side2 A5.out) ?_; (case side1 => exact cB HR0.out); (case side2 => exact HC0.out); clear HB; intro w7 hb HB; clear hb))
  go_ret;exact ⟨eA, bA⟩
 obtain rfl := Option.some.inj H;go_enter Tryz.func34, Tryz.ntmps34;go_wp2_with (first | ((with_reducible refine gate_callee (f := 33) rfl ?_); refine gB_ 6 Tryz.func33 (chart_Is.calls _ _ l0 false _ ?side1 ?side2 A3.out) ?_; (case side1 => exact cA HR0.out); (case side2 => exact HC0.out); clear HB; intro w8 hb HB; clear hb))
 go_ret;exact ⟨eA, bA⟩
def cmap_Glyph.f (l0 : List (S61)) (a1 : Int) (a2 : Int) : Option (Int × Int) := (chart_Is.f l0).bind fun t478 => (if t478 = true then ((chart_Look.f l0 a1).bind fun t479 => (if t479 = 0 then (some (0, 10)) else (if t479 ≥ a2 then (some (0, 10)) else (some (t479, 0))))) else (some (0, 1)))
theorem cmap_Glyph.calls (A0 : Option Addr) (c0 : Nat) (l0 : List (S61)) (a1 : Int) (a2 : Int) (r1 : Int) (r2 : Int) (w : World) (hr0 : Kd.C k61 w A0 l0.length l0) (hc0 : l0.length ≤ c0) (h : cmap_Glyph.f l0 a1 a2 = some (r1, r2)) :
  Calls Tryz.prog 11 #[.slice A0 l0.length c0, .int .i64 a1, .int .i64 a2] w fun e w' => e = .returned (.tuple #[.int .i64 r1, .int .i64 r2]) ∧ Below w.heap.size w w' := by
 have HR0 := aK hr0;have HC0 := aK hc0;clear hr0 hc0;have HB := aK (Below.refl w.heap.size w);have H : ((chart_Is.f l0).bind fun t478 => (if t478 = true then ((chart_Look.f l0 a1).bind fun t479 => (if t479 = 0 then (some (0, 10)) else (if t479 ≥ a2 then (some (0, 10)) else (some (t479, 0))))) else (some (0, 1)))) = some (r1, r2) := h;clear h;replace H := qS H;obtain ⟨t478, A4, H⟩ := H;replace H := qB H;rcases H with ⟨rfl, H⟩ | ⟨rfl, H⟩
 ·
  replace H := qS H;obtain ⟨t479, A6, H⟩ := H;replace H := qF H;rcases H with ⟨c7b0, c7b1, H⟩ | ⟨c7b0, c7b1, H⟩
  ·
   obtain ⟨rfl, rfl⟩ := qP H;go_enter Tryz.func11, Tryz.ntmps11;go_wp2_with (first | ((with_reducible refine gate_callee (f := 33) rfl ?_); refine gB_ 10 Tryz.func33 (chart_Is.calls _ _ l0 true _ ?side1 ?side2 A4.out) ?_; (case side1 => exact cA HR0.out); (case side2 => exact HC0.out); clear HB; intro w8 hb HB; clear hb) | ((with_reducible refine gate_callee (f := 34) rfl ?_); refine gB_ 14 Tryz.func34 (chart_Look.calls _ _ l0 a1 t479 _ ?side1 ?side2 A6.out) ?_; (case side1 => exact cB HR0.out); (case side2 => exact HC0.out); clear HB; intro w9 hb HB; clear hb))
   go_ret2;exact ⟨eA, bA⟩
  replace H := qG H;rcases H with ⟨c10b0, H⟩ | ⟨c10b0, H⟩
  ·
   obtain ⟨rfl, rfl⟩ := qP H;go_enter Tryz.func11, Tryz.ntmps11;go_wp2_with (first | ((with_reducible refine gate_callee (f := 33) rfl ?_); refine gB_ 10 Tryz.func33 (chart_Is.calls _ _ l0 true _ ?side1 ?side2 A4.out) ?_; (case side1 => exact cA HR0.out); (case side2 => exact HC0.out); clear HB; intro w11 hb HB; clear hb) | ((with_reducible refine gate_callee (f := 34) rfl ?_); refine gB_ 14 Tryz.func34 (chart_Look.calls _ _ l0 a1 t479 _ ?side1 ?side2 A6.out) ?_; (case side1 => exact cB HR0.out); (case side2 => exact HC0.out); clear HB; intro w12 hb HB; clear hb))
   go_ret2;exact ⟨eA, bA⟩
  obtain ⟨rfl, rfl⟩ := qP H;go_enter Tryz.func11, Tryz.ntmps11;go_wp2_with (first | ((with_reducible refine gate_callee (f := 33) rfl ?_); refine gB_ 10 Tryz.func33 (chart_Is.calls _ _ l0 true _ ?side1 ?side2 A4.out) ?_; (case side1 => exact cA HR0.out); (case side2 => exact HC0.out); clear HB; intro w13 hb HB; clear hb) | ((with_reducible refine gate_callee (f := 34) rfl ?_); refine gB_ 14 Tryz.func34 (chart_Look.calls _ _ l0 a1 t479 _ ?side1 ?side2 A6.out) ?_; (case side1 => exact cB HR0.out); (case side2 => exact HC0.out); clear HB; intro w14 hb HB; clear hb))
  go_ret2;exact ⟨eA, bA⟩
 obtain ⟨rfl, rfl⟩ := qP H;go_enter Tryz.func11, Tryz.ntmps11;go_wp2_with (first | ((with_reducible refine gate_callee (f := 33) rfl ?_); refine gB_ 10 Tryz.func33 (chart_Is.calls _ _ l0 false _ ?side1 ?side2 A4.out) ?_; (case side1 => exact cA HR0.out); (case side2 => exact HC0.out); clear HB; intro w15 hb HB; clear hb))
 go_ret2;exact ⟨eA, bA⟩
end Go.Proofs.YtejdflndgnpkcaaGreat.P
end
