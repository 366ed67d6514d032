/- Words, contracts and plain facts of the proof. Each says its own condition. -/
import Derived.Test.YtejdflndgnpkcaaZCmapFormatsf
import Derived.Test.YtejdflndgnpkcaaZCmapFormatsg
import Derived.Test.YtejdflndgnpkcaaZCmapFormatse
import Derived.Deep.WholeRow
import Derived.Deep.RegionHeld3
import Derived.WalkMore
import Derived.Lib.Hide
set_option linter.unusedVariables false
set_option linter.unusedSimpArgs false
section
namespace Go.Proofs.Ytejdflndgnpkcaa.P
open Go.RowKit Go.Proofs.YtejdflndgnpkcaaW.PrintWords Go.Proofs.YtejdflndgnpkcaaW.PrintLast Go.Proofs.YtejdflndgnpkcaaW.PrintMore
theorem lit_C (w : World) (l : List Int) (h : l.length ≤ maxLen) : Kd.C (Kd.int .i64) (w.alloc (.cells (l.map (Value.int .i64)).toArray 3)) (some ⟨w.heap.size, 0, none⟩) l.length l := by
 have ho := World.ownsRow_lit (base := 0) (e := 3) (size := 1) w (l.map (Value.int .i64)).toArray l.length (Nat.zero_le _) h (by simp)
 have hr : Kd.R (Kd.int .i64) 3 (w.alloc (.cells (l.map (Value.int .i64)).toArray 3)) 0 (fun _ => True) (.slice (some ⟨w.heap.size, 0, none⟩) l.length l.length) l := Kd.R_of_own (by simpa [encs] using ho) (fun _ _ => trivial)
 obtain ⟨A, c, e, _, hC⟩ := Kd.R_reads hr
 injection e with e1 e2 e3
 rw [e1]; exact hC
theorem row_block {W : World} {base : Nat} {ok : Nat → Prop} {v : Value} {xs : List Int} (h : Kd.R (Kd.int .i64) 3 W base ok v xs) (hn : 0 < xs.length) :
  ∃ ga cap, v = .slice (some ⟨ga, 0, none⟩) xs.length cap ∧ base ≤ ga ∧ ga < W.heap.size ∧ xs.length ≤ cap ∧ cap ≤ maxLen ∧ ∀ j, j < xs.length → W.cell? ⟨ga, j, none⟩ = some (.int .i64 (rd xs (j : Int))) := by
 have ho := Kd.own_of_R h
 rcases ho.2 with ⟨_, h0⟩ | ⟨g, cap, cur, rfl, hb, hg, hnc, hcm, hcs, ht⟩
 · omega
 ·
  refine ⟨g, cap, rfl, hb, blk_lt hg, hnc, hcm, fun j hj => ?_⟩
  have := ho.cellAt j (by omega)
  rw [this]
  unfold encs rd
  simp [List.getD_eq_getElem?_getD, List.getElem?_eq_getElem hj]
theorem cell_al {W : World} {a : Addr} {v : Value} (o : Obj) (h : W.cell? a = some v) : (W.alloc o).cell? a = some v := (((Below.refl _ W).alloc (Nat.le_refl _) o).cell (World.block_lt_of_cell? _ _ h)).trans h
theorem less_step {N n m : Nat} (h : 0 < m) (hN : n + m ≤ N) : N - (intOf (Value.int .i64 ((n + m : Nat) : Int))).toNat < N - (intOf (Value.int .i64 (n : Int))).toNat := by
 have e1 : (intOf (Value.int .i64 ((n + m : Nat) : Int))).toNat = n + m := Int.toNat_natCast _
 have e2 : (intOf (Value.int .i64 (n : Int))).toNat = n := Int.toNat_natCast _
 rw [e1, e2]; omega
end Go.Proofs.Ytejdflndgnpkcaa.P
end
section
namespace Go.Proofs.Ytejdflndgnpkcaa.P
open Go.RowKit Go.Proofs.YtejdflndgnpkcaaW.PrintWords Go.Proofs.YtejdflndgnpkcaaW.PrintLast Go.Proofs.YtejdflndgnpkcaaW.PrintMore
def rightN (x : S50) : Bool := decide (0 ≤ x.f0) && (decide (x.f0 ≤ x.f1) && (decide (x.f1 ≤ 1114111) && ((x.f3 == 0 || x.f3 == 1) && (decide (0 ≤ x.f2) && (decide (x.f2 ≤ 65535) && decide (x.f2 + x.f3 * (x.f1 - x.f0) ≤ 65535))))))
theorem glyph_bound {a b c : Int} (h0 : 0 ≤ a) (h1 : a ≤ b) (h2 : b ≤ 1114111) (h3 : 0 ≤ c) (h4 : c ≤ 65535) (s : Int) (hs : s = 0 ∨ s = 1) : wrap64 (c + wrap64 (s * wrap64 (b - a))) = c + s * (b - a) := by
 have e1 : wrap64 (b - a) = b - a := by unfold wrap64; omega
 rw [e1]
 rcases hs with rfl | rfl
 ·
  rw [Int.zero_mul]
  unfold wrap64; omega
 ·
  rw [Int.one_mul]
  unfold wrap64; omega
theorem right_some (x : S50) : chart_span_right.f x.f0 x.f1 x.f2 x.f3 = some (rightN x) := by
 obtain ⟨a, b, c, s⟩ := x
 unfold chart_span_right.f rightN
 simp only
 by_cases h1 : 0 ≤ a
 ·
  rw [if_pos h1, decide_eq_true h1, Bool.true_and]
  by_cases h2 : a ≤ b
  ·
   rw [if_pos h2, decide_eq_true h2, Bool.true_and]
   by_cases h3 : b ≤ 1114111
   ·
    rw [if_pos h3, decide_eq_true h3, Bool.true_and]
    have hg : ∀ (hs : s = 0 ∨ s = 1), (if c ≥ 0 then (if c ≤ 65535 then ((chart_span_glyph.f a b c s b).bind fun t => (some (decide (t ≤ 65535)))) else (some false)) else (some false)) = some (decide (0 ≤ c) && (decide (c ≤ 65535) && decide (c + s * (b - a) ≤ 65535))) := fun hs => by
     by_cases h4 : 0 ≤ c
     ·
      rw [if_pos h4, decide_eq_true h4, Bool.true_and]
      by_cases h5 : c ≤ 65535
      ·
       rw [if_pos h5, decide_eq_true h5, Bool.true_and]
       unfold chart_span_glyph.f
       rw [Option.bind_some, glyph_bound h1 h2 h3 h4 h5 s hs]
      · rw [if_neg h5, decide_eq_false h5, Bool.false_and]
     · rw [if_neg h4, decide_eq_false h4, Bool.false_and]
    by_cases h6 : s = 0
    · rw [if_pos h6, hg (.inl h6), show (s == 0) = true from beq_iff_eq.2 h6, Bool.true_or, Bool.true_and]
    ·
     rw [if_neg h6, show (s == 0) = false from beq_eq_false_iff_ne.2 h6, Bool.false_or]
     by_cases h7 : s = 1
     · rw [if_pos h7, hg (.inr h7), show (s == 1) = true from beq_iff_eq.2 h7, Bool.true_and]
     · rw [if_neg h7, show (s == 1) = false from beq_eq_false_iff_ne.2 h7, Bool.false_and]
   · rw [if_neg h3, decide_eq_false h3, Bool.false_and]
  · rw [if_neg h2, decide_eq_false h2, Bool.false_and]
 · rw [if_neg h1, decide_eq_false h1, Bool.false_and]
def ordN : List S50 → Bool
 | [] => true
 | [_] => true
 | x :: y :: r => decide (x.f1 < y.f0) && ordN (y :: r)
def isL (l : List S50) : Bool := decide (l.length ≤ 65536) && (l.all rightN && ordN l)
set_option maxHeartbeats 2000000 in
theorem all1_calls (q : Addr) (x : S50) (w : World) (hq : w.cell? q = some (.func (.func 31) #[] #[])) :
  Calls Try.prog 53 #[.agg #[.int .i64 x.f0, .int .i64 x.f1, .int .i64 x.f2, .int .i64 x.f3], .pointer (some q)] w fun e w' => e = .returned (.bool (!rightN x)) ∧ Below w.heap.size w w' := by
 have HB := Aside0.mk (Below.refl w.heap.size w)
 have hq1 := cell_al (.cells #[.int .i64 x.f0, .int .i64 x.f1, .int .i64 x.f2, .int .i64 x.f3] 50) hq
 go_enter Try.func53, Try.ntmps53
 go_wp2_with fail
 refine (chart_span_right.calls x.f0 x.f1 x.f2 x.f3 _ _ (right_some x)).mono ?_
 rintro e w8 ⟨rfl, hb⟩
 have HB2 := Lib.hid (((Below.refl w.heap.size w).alloc (Nat.le_refl _) _).trans (hb.mono (by simp)))
 clear hb
 go_wp2
 go_ret
 exact ⟨rfl, HB2.out⟩
def idxN (p : S50 → Bool) : List S50 → Nat → Int
 | [], _ => -1
 | x :: l, i => if p x = true then (i : Int) else idxN p l (i + 1)
theorem idx_yes (p : S50 → Bool) (x : S50) (l : List S50) (i : Nat) (h : p x = false) : idxN p (x :: l) i = idxN p l (i + 1) := by
 conv => lhs; unfold idxN
 rw [if_neg (by rw [h]; exact Bool.false_ne_true)]
theorem idx_no (p : S50 → Bool) (x : S50) (l : List S50) (i : Nat) (h : p x = true) : idxN p (x :: l) i = (i : Int) := by
 conv => lhs; unfold idxN
 rw [if_pos h]
theorem idx_any (p : S50 → Bool) : ∀ (l : List S50) (i : Nat), decide (0 ≤ idxN p l i) = l.any p
 | [], i => rfl
 | x :: l, i => by
  rw [List.any_cons]
  cases h : p x with
  | true => rw [idx_no p x l i h]; simp
  | false => rw [idx_yes p x l i h, idx_any p l (i + 1)]; rfl
def EntersK (K : Nat) : Prop := ∀ (xs : Array Value) (W : World), Sem.run Try.prog (callFunc K xs) W = .ok (.enter K xs) W
theorem entersK_of {K : Nat} {F : Func} (hf : Try.prog.funcs[K]? = some F) (hn : (F.name == "runtime.NumGoroutine") = false) (hb : F.body.isNone = false) : EntersK K := fun xs W => by
 have h1 : ¬ F.name = "runtime.NumGoroutine" := beq_eq_false_iff_ne.1 hn
 have h2 : ¬ F.body = none := fun e => by rw [e] at hb; exact absurd hb (by decide)
 simp [callFunc, go_sem, hf]
 rw [if_neg h1, if_neg h2]
theorem enters_all1 : EntersK 53 := entersK_of Try.func53 (by kernel_rfl) (by kernel_rfl)
def Tests (K : Nat) (fr : Array Value) (p : S50 → Bool) (w0 : World) : Prop := ∀ (x : S50) (W : World), Below w0.heap.size w0 W → Calls Try.prog K (#[.agg #[.int .i64 x.f0, .int .i64 x.f1, .int .i64 x.f2, .int .i64 x.f3]] ++ fr) W fun e w' => e = .returned (.bool (p x)) ∧ Below W.heap.size W w'
set_option maxRecDepth 100000 in
set_option maxHeartbeats 2000000 in
theorem index_calls (K : Nat) (fr : Array Value) (p : S50 → Bool) (A0 : Option Addr) (c0 : Nat) (l : List S50) (w : World) (hr0 : Kd.C k50 w A0 l.length l) (hp : Tests K fr p w) (he : EntersK K) :
  Calls Try.prog 79 #[.slice A0 l.length c0, .func (.func K) #[] fr] w fun e w' => e = .returned (.int .i64 (idxN p l 0)) ∧ Below w.heap.size w w' := by
 have hl := Kd.C_max hr0
 have HR0 := Lib.hid hr0
 have HL := Lib.hid hl
 have HP := Lib.hid hp
 unfold EntersK at he
 clear hr0 hl hp
 go_enter Try.func79, Try.ntmps79
 go_wp2_with fail
 go_loopw [8] (fun v8 wr => ∃ (i : Nat), i ≤ l.length ∧ v8 = .int .i64 (i : Int) ∧ Aside0 (Below w.heap.size w wr) ∧ Aside0 (idxN p (l.drop i) i = idxN p l 0)) (fun v8 _ => l.length - (intOf v8).toNat)
 case atStart => exact ⟨0, by omega, rfl, ⟨Below.refl _ _⟩, ⟨rfl⟩⟩
 case round =>
  obtain ⟨i, hi, rfl, HB, HI⟩ := hrel
  by_cases hlt : i < l.length
  ·
   have q0 : (0 : Int) ≤ (i : Int) := by omega
   have q1 : (i : Int) < (l.length : Int) := by omega
   have d1 : decide ((i : Int) < (l.length : Int)) = true := decide_eq_true q1
   have hwi : wrap64 ((i : Int) + 1) = ((i + 1 : Nat) : Int) := by have := HL.out; unfold wrap64; omega
   obtain ⟨ad, rfl, x0, x1, x2, x3⟩ := at_T50 HR0.out (i : Int) q0 q1
   obtain ⟨x, hx⟩ : ∃ x, x = rd_T50 l (i : Int) := ⟨_, rfl⟩
   rw [← hx] at x0 x1 x2 x3
   rw [Int.toNat_natCast] at x0 x1 x2 x3
   replace x0 := (HB.out.cell (World.block_lt_of_cell? _ _ x0)).trans x0
   replace x1 := (HB.out.cell (World.block_lt_of_cell? _ _ x1)).trans x1
   replace x2 := (HB.out.cell (World.block_lt_of_cell? _ _ x2)).trans x2
   replace x3 := (HB.out.cell (World.block_lt_of_cell? _ _ x3)).trans x3
   have hdr : l.drop i = x :: l.drop (i + 1) := by rw [List.drop_eq_getElem_cons hlt, hx]; unfold rd_T50; simp [List.getD_eq_getElem?_getD, List.getElem?_eq_getElem hlt]
   have HDR := Lib.hid hdr
   clear hdr hx
   replace q0 := eq_true q0
   replace q1 := eq_true q1
   go_wp2_with fail
   refine (HP.out x _ HB.out).mono ?_
   rintro e w1 ⟨rfl, hb⟩
   have HB2 := Lib.hid (HB.out.trans (hb.mono HB.out.size))
   clear hb
   cases hq : p x with
   | false =>
    have HN := Lib.hid (show idxN p (l.drop (i + 1)) (i + 1) = idxN p l 0 by
     have := HI.out
     rw [HDR.out, idx_yes p x _ i hq] at this
     exact this)
    clear hq
    go_wp2
    go_roundw
    case rel => exact ⟨i + 1, hlt, by rw [hwi], ⟨HB2.out⟩, ⟨HN.out⟩⟩
    case measure => rw [hwi]; exact less_step (by decide) hlt
   | true =>
    have hres : idxN p l 0 = (i : Int) := by
     rw [← HI.out, HDR.out, idx_no p x _ i hq]
    have HRE := Lib.hid hres
    clear hq hres
    go_wp2
    go_ret
    rw [HRE.out]
    exact ⟨rfl, HB2.out⟩
  ·
   have hie : i = l.length := by omega
   have d1 : decide ((i : Int) < (l.length : Int)) = false := decide_eq_false (by omega)
   have hres : idxN p l 0 = -1 := by rw [← HI.out, hie, List.drop_length]; rfl
   have HRE := Lib.hid hres
   clear hie hres
   go_wp2
   go_ret
   rw [HRE.out]
   exact ⟨rfl, HB.out⟩
set_option maxHeartbeats 1000000 in
theorem contains_calls (K : Nat) (fr : Array Value) (p : S50 → Bool) (A0 : Option Addr) (c0 : Nat) (l : List S50) (w : World) (hr0 : Kd.C k50 w A0 l.length l) (hp : Tests K fr p w) (he : EntersK K) :
  Calls Try.prog 52 #[.slice A0 l.length c0, .func (.func K) #[] fr] w fun e w' => e = .returned (.bool (l.any p)) ∧ Below w.heap.size w w' := by
 have H := Lib.hid (index_calls K fr p A0 c0 l w hr0 hp he)
 have HI := Lib.hid (idx_any p l 0)
 clear hr0 hp
 go_enter Try.func52, Try.ntmps52
 go_wp2_with fail
 refine H.out.mono ?_
 rintro e w1 ⟨rfl, hb⟩
 obtain ⟨j, hj⟩ : ∃ j, j = idxN p l 0 := ⟨_, rfl⟩
 have HI2 := Lib.hid (show l.any p = decide (0 ≤ j) by rw [hj]; exact HI.out.symm)
 rw [← hj]
 have HBB := Lib.hid hb
 clear H HI hj hb
 go_wp2
 go_ret
 rw [HI2.out]
 exact ⟨rfl, HBB.out⟩
set_option maxHeartbeats 1000000 in
theorem all_calls (A0 : Option Addr) (c0 : Nat) (l : List S50) (w : World) (hr0 : Kd.C k50 w A0 l.length l) :
  Calls Try.prog 30 #[.slice A0 l.length c0, .func (.func 31) #[] #[]] w fun e w' => e = .returned (.bool (l.all rightN)) ∧ Below w.heap.size w w' := by
 have hb0 := (Below.refl w.heap.size w).alloc (Nat.le_refl _) (.cells #[.func (.func 31) #[] #[]] 69)
 have hc : (w.alloc (.cells #[.func (.func 31) #[] #[]] 69)).cell? ⟨w.heap.size, 0, none⟩ = some (.func (.func 31) #[] #[]) := by simp [go_sem]
 have H := Lib.hid (contains_calls 53 #[.pointer (some ⟨w.heap.size, 0, none⟩)] (fun x => !rightN x) A0 c0 l (w.alloc (.cells #[.func (.func 31) #[] #[]] 69)) (Kd.C_alloc hr0 _)
  (fun x W hW => all1_calls ⟨w.heap.size, 0, none⟩ x W ((hW.cell (World.block_lt_of_cell? _ _ hc)).trans hc)) enters_all1)
 have HB0 := Lib.hid hb0
 have HA := Lib.hid (show (!(l.any fun x => !rightN x)) = l.all rightN by rw [List.not_any_eq_all_not]; simp)
 clear hr0 hb0 hc
 go_enter Try.func30, Try.ntmps30
 go_wp2_with fail
 refine H.out.mono ?_
 rintro e w1 ⟨rfl, hb⟩
 obtain ⟨j, hj⟩ : ∃ j, j = l.any (fun x => !rightN x) := ⟨_, rfl⟩
 have HBB := Lib.hid (HB0.out.trans (hb.mono HB0.out.size))
 rw [← hj] at HA ⊢
 clear H hj hb
 go_wp2
 go_ret
 rw [← HA.out]
 exact ⟨rfl, HBB.out⟩
theorem ord_step (x y : S50) (r : List S50) : ordN (x :: y :: r) = (decide (x.f1 < y.f0) && ordN (y :: r)) := by
 conv => lhs; unfold ordN
theorem ord_at (l : List S50) (i : Nat) (h : i + 1 < l.length) : ordN (l.drop i) = (decide (l[i].f1 < l[i + 1].f0) && ordN (l.drop (i + 1))) := by
 rw [List.drop_eq_getElem_cons (by omega), List.drop_eq_getElem_cons h, ord_step]
theorem ord_last (l : List S50) (i : Nat) (h : i + 1 = l.length) : ordN (l.drop i) = true := by
 rw [List.drop_eq_getElem_cons (by omega), List.drop_eq_nil_of_le (by omega)]
 rfl
set_option maxRecDepth 100000 in
set_option maxHeartbeats 2000000 in
theorem chart_is_many (A0 : Option Addr) (c0 n : Nat) (w : World) (h : 65536 < n) (h2 : n ≤ 9223372036854775807) :
  Calls Try.prog 15 #[.slice A0 n c0] w fun e w' => e = .returned (.bool false) ∧ Below w.heap.size w w' := by
 have d2 : decide ((65536 : Int) < (n : Int)) = true := decide_eq_true (by omega)
 have d3 : decide (65536 < n) = true := decide_eq_true h
 clear h h2
 go_enter Try.func15, Try.ntmps15
 go_wp2
 go_ret
 exact ⟨rfl, Below.refl _ _⟩
set_option maxRecDepth 100000 in
set_option maxHeartbeats 2000000 in
theorem chart_is_wrong (A0 : Option Addr) (c0 : Nat) (l : List S50) (w : World) (hr0 : Kd.C k50 w A0 l.length l) (hl : l.length ≤ 65536) (ha : l.all rightN = false) :
  Calls Try.prog 15 #[.slice A0 l.length c0] w fun e w' => e = .returned (.bool false) ∧ Below w.heap.size w w' := by
 have d2 : decide ((65536 : Int) < (l.length : Int)) = false := decide_eq_false (by omega)
 have d3 : decide (65536 < l.length) = false := decide_eq_false (by omega)
 have H := Lib.hid (all_calls A0 c0 l w hr0)
 rw [ha] at H
 clear ha hr0 hl
 go_enter Try.func15, Try.ntmps15
 go_wp2_with fail
 refine H.out.mono ?_
 rintro e w1 ⟨rfl, hb⟩
 have HB := Lib.hid hb
 clear hb H
 go_wp2
 go_ret
 exact ⟨rfl, HB.out⟩
set_option maxRecDepth 100000 in
set_option maxHeartbeats 2000000 in
theorem chart_is_walk (A0 : Option Addr) (c0 : Nat) (l : List S50) (w : World) (hr0 : Kd.C k50 w A0 l.length l) (hl : l.length ≤ 65536) (ha : l.all rightN = true) (r : Bool) (hr : ordN l = r) :
  Calls Try.prog 15 #[.slice A0 l.length c0] w fun e w' => e = .returned (.bool r) ∧ Below w.heap.size w w' := by
 have d2 : decide ((65536 : Int) < (l.length : Int)) = false := decide_eq_false (by omega)
 have d3 : decide (65536 < l.length) = false := decide_eq_false (by omega)
 have H := Lib.hid (all_calls A0 c0 l w hr0)
 rw [ha] at H
 have HR0 := Lib.hid hr0
 have HR := Lib.hid hr
 have HL := Lib.hid hl
 clear ha hr0 hl hr
 go_enter Try.func15, Try.ntmps15
 go_wp2_with fail
 refine H.out.mono ?_
 rintro e w1 ⟨rfl, hb⟩
 have HB1 := Lib.hid hb
 clear hb H
 go_wp2
 go_loopw [14] (fun v14 wr => ∃ (i : Nat), i ≤ l.length ∧ v14 = .int .i64 (i : Int) ∧ Aside0 (Below w.heap.size w wr) ∧ Aside0 (ordN (l.drop (i - 1)) = r)) (fun v14 _ => l.length - (intOf v14).toNat)
 case atStart => exact ⟨0, by omega, rfl, ⟨HB1.out⟩, ⟨by simpa using HR.out⟩⟩
 case round =>
  obtain ⟨i, hi, rfl, HB, HI⟩ := hrel
  by_cases hlt : i < l.length
  ·
   have q0 : (0 : Int) ≤ (i : Int) := by omega
   have q1 : (i : Int) < (l.length : Int) := by omega
   have d1 : decide ((i : Int) < (l.length : Int)) = true := decide_eq_true q1
   have hwi : wrap64 ((i : Int) + 1) = ((i + 1 : Nat) : Int) := by have := HL.out; unfold wrap64; omega
   by_cases h0 : i = 0
   ·
    have d4 : decide ((0 : Int) < (i : Int)) = false := decide_eq_false (by omega)
    have d5 : decide (0 < i) = false := decide_eq_false (by omega)
    have HN := Lib.hid (show ordN (l.drop (i + 1 - 1)) = r by have := HI.out; rw [h0] at this ⊢; exact this)
    clear h0 q0 q1
    go_wp2_with fail
    go_quiet (fail)
    go_wp2
    go_roundw
    case rel => exact ⟨i + 1, hlt, by rw [hwi], ⟨pw_below_drewN HB.out _⟩, ⟨HN.out⟩⟩
    case measure => rw [hwi]; exact less_step (by decide) hlt
   ·
    have d4 : decide ((0 : Int) < (i : Int)) = true := decide_eq_true (by omega)
    have d5 : decide (0 < i) = true := decide_eq_true (by omega)
    have hw1 : wrap64 ((i : Int) - 1) = ((i - 1 : Nat) : Int) := by have := HL.out; unfold wrap64; omega
    obtain ⟨j, hj⟩ : ∃ j, j = i - 1 := ⟨_, rfl⟩
    rw [← hj] at hw1 HI
    have p0 : (0 : Int) ≤ (j : Int) := by omega
    have p1 : (j : Int) < (l.length : Int) := by omega
    obtain ⟨ad, rfl, x0, x1, x2, x3⟩ := at_T50 HR0.out (i : Int) q0 q1
    obtain ⟨_, e, y0, y1, y2, y3⟩ := at_T50 HR0.out (j : Int) p0 p1
    cases e
    have hxi : rd_T50 l (i : Int) = l[i] := by unfold rd_T50; simp [List.getD_eq_getElem?_getD, List.getElem?_eq_getElem hlt]
    have hjl : j < l.length := by omega
    have hyj : rd_T50 l (j : Int) = l[j] := by unfold rd_T50; simp [List.getD_eq_getElem?_getD, List.getElem?_eq_getElem hjl]
    have hstep : ordN (l.drop j) = (decide (l[j].f1 < l[i].f0) && ordN (l.drop i)) := by
     have := ord_at l j (by omega)
     have e : j + 1 = i := by omega
     simp only [e] at this
     exact this
    rw [hxi] at x0 x1 x2 x3
    rw [hyj] at y0 y1 y2 y3
    obtain ⟨x, hx⟩ : ∃ x, x = l[i] := ⟨_, rfl⟩
    obtain ⟨y, hy⟩ : ∃ y, y = l[j] := ⟨_, rfl⟩
    rw [← hx] at x0 hstep
    rw [← hy] at y1 hstep
    rw [Int.toNat_natCast] at x0 y1
    replace x0 := (HB.out.cell (World.block_lt_of_cell? _ _ x0)).trans x0
    replace y1 := (HB.out.cell (World.block_lt_of_cell? _ _ y1)).trans y1
    rw [hstep] at HI
    clear hxi hyj hstep hx hy x1 x2 x3 y0 y2 y3 h0 hj hjl
    replace q0 := eq_true q0
    replace q1 := eq_true q1
    replace p0 := eq_true p0
    replace p1 := eq_true p1
    by_cases hle : x.f0 ≤ y.f1
    ·
     have d6 : decide (x.f0 ≤ y.f1) = true := decide_eq_true hle
     have d7 : decide (y.f1 < x.f0) = false := decide_eq_false (by omega)
     rw [d7, Bool.false_and] at HI
     have HRE := Lib.hid HI.out
     clear hle d7 HI
     go_wp2_with fail
     go_quiet (fail)
     go_wp2
     go_ret
     rw [HRE.out]
     exact ⟨rfl, pw_below_drewN HB.out _⟩
    ·
     have d6 : decide (x.f0 ≤ y.f1) = false := decide_eq_false hle
     have d7 : decide (y.f1 < x.f0) = true := decide_eq_true (by omega)
     rw [d7, Bool.true_and] at HI
     have HRE := Lib.hid (show ordN (l.drop (i + 1 - 1)) = r from HI.out)
     clear hle d7 HI
     go_wp2_with fail
     go_quiet (fail)
     go_wp2
     go_roundw
     case rel => exact ⟨i + 1, hlt, by rw [hwi], ⟨pw_below_drewN HB.out _⟩, ⟨HRE.out⟩⟩
     case measure => rw [hwi]; exact less_step (by decide) hlt
  ·
   have hie : i = l.length := by omega
   have d1 : decide ((i : Int) < (l.length : Int)) = false := decide_eq_false (by omega)
   have hres : r = true := by
    rw [← HI.out]
    by_cases h0 : l.length = 0
    · rw [List.length_eq_zero_iff.1 h0]; simp; rfl
    · exact ord_last l (i - 1) (by omega)
   have HRE := Lib.hid hres
   clear hie hres
   go_wp2
   go_ret
   rw [HRE.out]
   exact ⟨rfl, HB.out⟩
def chart_Is.f (l0 : List S50) : Option Bool := some (isL l0)
theorem chart_Is.calls (A0 : Option Addr) (c0 : Nat) (l0 : List S50) (r : Bool) (w : World) (hr0 : Kd.C k50 w A0 l0.length l0) (hc0 : l0.length ≤ c0) (h : chart_Is.f l0 = some r) :
  Calls Try.prog 15 #[.slice A0 l0.length c0] w fun e w' => e = .returned (.bool r) ∧ Below w.heap.size w w' := by
 have hr := Option.some.inj h
 unfold isL at hr
 by_cases h1 : l0.length ≤ 65536
 ·
  rw [decide_eq_true h1, Bool.true_and] at hr
  cases ha : l0.all rightN with
  | true => rw [ha, Bool.true_and] at hr; exact chart_is_walk A0 c0 l0 w hr0 h1 ha r hr
  | false => rw [ha, Bool.false_and] at hr; rw [← hr]; exact chart_is_wrong A0 c0 l0 w hr0 h1 ha
 ·
  rw [decide_eq_false h1, Bool.false_and] at hr
  rw [← hr]
  exact chart_is_many A0 c0 l0.length w (by omega) (Kd.C_max hr0)
end Go.Proofs.Ytejdflndgnpkcaa.P
end
section
namespace Go.Proofs.Ytejdflndgnpkcaa.P
open Go.RowKit Go.Proofs.YtejdflndgnpkcaaW.PrintWords Go.Proofs.YtejdflndgnpkcaaW.PrintLast Go.Proofs.YtejdflndgnpkcaaW.PrintMore
attribute [local go_sem] max2_int min2_int max_two min_two max_three min_three max_four min_four
def chart_look_1.f (a0_0 : Int) (a0_1 : Int) (a0_2 : Int) (a0_3 : Int) (a1 : Int) : Option (Int) := if a0_1 < a1 then (some (-1)) else (if a0_0 > a1 then (some 1) else (some 0))
set_option maxHeartbeats 8000000 in
set_option maxRecDepth 100000 in
theorem chart_look_1.calls (a0_0 : Int) (a0_1 : Int) (a0_2 : Int) (a0_3 : Int) (a1 : Int) (r : Int) (w : World) (h : chart_look_1.f a0_0 a0_1 a0_2 a0_3 a1 = some r) :
  Calls Try.prog 56 #[.agg #[.int .i64 a0_0, .int .i64 a0_1, .int .i64 a0_2, .int .i64 a0_3], .int .i64 a1] w fun e w' => e = .returned (.int .i64 r) ∧ Below w.heap.size w w' := by
 have hu50 := Try.underlying50
 have HB := Aside0.mk (Below.refl w.heap.size w)
 have H : (if a0_1 < a1 then (some (-1)) else (if a0_0 > a1 then (some 1) else (some 0))) = some r := h
 clear h
 by_cases c3 : a0_1 < a1
 ·
  rw [if_pos c3] at H
  have c3b0 : decide (a0_1 < a1) = true := decide_eq_true c3
  clear c3
  obtain rfl := Option.some.inj H
  go_enter Try.func56, Try.ntmps56
  go_wp2_with (first | ((with_reducible refine gate_dst (N := 2) rfl ?_); refine box_event ?hg (N := 2) ?hd (cs := #[.int .i64 a0_0, .int .i64 a0_1, .int .i64 a0_2, .int .i64 a0_3]) (t := 50) ?hr ?_; (case hd => rfl); (case hg => rfl); (case hr => exact hA); intro gb314 hg w4 hbox hb; have n0_ := Aside0.mk (below_step bA hb); have n1_ := Aside0.mk (hbox); have n2_ := Aside0.mk ((by rw [hg]; exact (below_size bA) : w.heap.size ≤ gb314)); have n3_ := Aside0.mk ((by rw [hg]; exact (below_size bA) : w.heap.size ≤ gb314)); clear HB; have HB := n0_; have BK314 := n1_; have GW314 := n2_; have GE314 := n3_; clear n0_ n1_ n2_ n3_; clear hb hbox hg; have hcz5_0 : w4.cell? ⟨gb314, 0, none⟩ = some (.int .i64 a0_0) := (blk_cell BK314.out 0).trans rfl; have hcz5_1 : w4.cell? ⟨gb314, 1, none⟩ = some (.int .i64 a0_1) := (blk_cell BK314.out 1).trans rfl; have hcz5_2 : w4.cell? ⟨gb314, 2, none⟩ = some (.int .i64 a0_2) := (blk_cell BK314.out 2).trans rfl; have hcz5_3 : w4.cell? ⟨gb314, 3, none⟩ = some (.int .i64 a0_3) := (blk_cell BK314.out 3).trans rfl; have hfz5_0 := blk_frozen BK314.out 0; have hfz5_1 := blk_frozen BK314.out 1; have hfz5_2 := blk_frozen BK314.out 2; have hfz5_3 := blk_frozen BK314.out 3))
  go_ret
  exact ⟨eA, by repeat (first | (with_reducible first | exact HB.out | apply below_alloc | apply pw_below_drewN | apply below_drew1 | refine below_set ?_ GE314.out) | exact HB.out)⟩
 ·
  rw [if_neg c3] at H
  have c3b0 : decide (a0_1 < a1) = false := decide_eq_false c3
  clear c3
  by_cases c6 : a0_0 > a1
  ·
   rw [if_pos c6] at H
   have c6b0 : decide (a1 < a0_0) = true := decide_eq_true c6
   clear c6
   obtain rfl := Option.some.inj H
   go_enter Try.func56, Try.ntmps56
   go_wp2_with (first | ((with_reducible refine gate_dst (N := 2) rfl ?_); refine box_event ?hg (N := 2) ?hd (cs := #[.int .i64 a0_0, .int .i64 a0_1, .int .i64 a0_2, .int .i64 a0_3]) (t := 50) ?hr ?_; (case hd => rfl); (case hg => rfl); (case hr => exact hA); intro gb314 hg w7 hbox hb; have n0_ := Aside0.mk (below_step bA hb); have n1_ := Aside0.mk (hbox); have n2_ := Aside0.mk ((by rw [hg]; exact (below_size bA) : w.heap.size ≤ gb314)); have n3_ := Aside0.mk ((by rw [hg]; exact (below_size bA) : w.heap.size ≤ gb314)); clear HB; have HB := n0_; have BK314 := n1_; have GW314 := n2_; have GE314 := n3_; clear n0_ n1_ n2_ n3_; clear hb hbox hg; have hcz8_0 : w7.cell? ⟨gb314, 0, none⟩ = some (.int .i64 a0_0) := (blk_cell BK314.out 0).trans rfl; have hcz8_1 : w7.cell? ⟨gb314, 1, none⟩ = some (.int .i64 a0_1) := (blk_cell BK314.out 1).trans rfl; have hcz8_2 : w7.cell? ⟨gb314, 2, none⟩ = some (.int .i64 a0_2) := (blk_cell BK314.out 2).trans rfl; have hcz8_3 : w7.cell? ⟨gb314, 3, none⟩ = some (.int .i64 a0_3) := (blk_cell BK314.out 3).trans rfl; have hfz8_0 := blk_frozen BK314.out 0; have hfz8_1 := blk_frozen BK314.out 1; have hfz8_2 := blk_frozen BK314.out 2; have hfz8_3 := blk_frozen BK314.out 3))
   go_ret
   exact ⟨eA, by repeat (first | (with_reducible first | exact HB.out | apply below_alloc | apply pw_below_drewN | apply below_drew1 | refine below_set ?_ GE314.out) | exact HB.out)⟩
  ·
   rw [if_neg c6] at H
   have c6b0 : decide (a1 < a0_0) = false := decide_eq_false c6
   clear c6
   obtain rfl := Option.some.inj H
   go_enter Try.func56, Try.ntmps56
   go_wp2_with (first | ((with_reducible refine gate_dst (N := 2) rfl ?_); refine box_event ?hg (N := 2) ?hd (cs := #[.int .i64 a0_0, .int .i64 a0_1, .int .i64 a0_2, .int .i64 a0_3]) (t := 50) ?hr ?_; (case hd => rfl); (case hg => rfl); (case hr => exact hA); intro gb314 hg w9 hbox hb; have n0_ := Aside0.mk (below_step bA hb); have n1_ := Aside0.mk (hbox); have n2_ := Aside0.mk ((by rw [hg]; exact (below_size bA) : w.heap.size ≤ gb314)); have n3_ := Aside0.mk ((by rw [hg]; exact (below_size bA) : w.heap.size ≤ gb314)); clear HB; have HB := n0_; have BK314 := n1_; have GW314 := n2_; have GE314 := n3_; clear n0_ n1_ n2_ n3_; clear hb hbox hg; have hcz10_0 : w9.cell? ⟨gb314, 0, none⟩ = some (.int .i64 a0_0) := (blk_cell BK314.out 0).trans rfl; have hcz10_1 : w9.cell? ⟨gb314, 1, none⟩ = some (.int .i64 a0_1) := (blk_cell BK314.out 1).trans rfl; have hcz10_2 : w9.cell? ⟨gb314, 2, none⟩ = some (.int .i64 a0_2) := (blk_cell BK314.out 2).trans rfl; have hcz10_3 : w9.cell? ⟨gb314, 3, none⟩ = some (.int .i64 a0_3) := (blk_cell BK314.out 3).trans rfl; have hfz10_0 := blk_frozen BK314.out 0; have hfz10_1 := blk_frozen BK314.out 1; have hfz10_2 := blk_frozen BK314.out 2; have hfz10_3 := blk_frozen BK314.out 3))
   go_ret
   exact ⟨eA, by repeat (first | (with_reducible first | exact HB.out | apply below_alloc | apply pw_below_drewN | apply below_drew1 | refine below_set ?_ GE314.out) | exact HB.out)⟩
end Go.Proofs.Ytejdflndgnpkcaa.P
end
section
namespace Go.Proofs.Ytejdflndgnpkcaa.P
open Go.RowKit Go.Proofs.YtejdflndgnpkcaaW.PrintWords Go.Proofs.YtejdflndgnpkcaaW.PrintLast Go.Proofs.YtejdflndgnpkcaaW.PrintMore
def atS (l : List S50) (i : Nat) : S50 := l.getD i z50
theorem rd_atS (l : List S50) (i : Nat) : rd_T50 l (i : Int) = atS l i := rfl
theorem atS_get (l : List S50) (i : Nat) (h : i < l.length) : atS l i = l[i] := by
 unfold atS
 rw [List.getD_eq_getElem?_getD, List.getElem?_eq_getElem h]; rfl
def srch (l : List S50) (c : Int) : Nat → Nat → Nat → Nat
 | 0, i, _ => i
 | k + 1, i, j => if i < j then (if (atS l ((i + j) / 2)).f1 < c then srch l c k ((i + j) / 2 + 1) j else srch l c k i ((i + j) / 2)) else i
def cmpN (x : S50) (c : Int) : Int := if x.f1 < c then -1 else if x.f0 > c then 1 else 0
theorem cmp_some (x : S50) (c : Int) : chart_look_1.f x.f0 x.f1 x.f2 x.f3 c = some (cmpN x c) := by
 unfold chart_look_1.f cmpN
 by_cases h : x.f1 < c
 · rw [if_pos h, if_pos h]
 ·
  rw [if_neg h, if_neg h]
  by_cases h2 : x.f0 > c
  · rw [if_pos h2, if_pos h2]
  · rw [if_neg h2, if_neg h2]
theorem cmp_lt (x : S50) (c : Int) : decide (cmpN x c < 0) = decide (x.f1 < c) := by
 unfold cmpN
 by_cases h : x.f1 < c
 · rw [if_pos h, decide_eq_true h]; rfl
 ·
  rw [if_neg h, decide_eq_false h]
  by_cases h2 : x.f0 > c
  · rw [if_pos h2]; rfl
  · rw [if_neg h2]; rfl
def isAt (l : List S50) (c : Int) (i : Nat) : Bool := decide (i < l.length) && (cmpN (atS l i) c == 0)
def glyAt (x : S50) (c : Int) : Int := wrap64 (x.f2 + wrap64 (x.f3 * wrap64 (c - x.f0)))
def placeN (l : List S50) (c : Int) : Nat := srch l c l.length 0 l.length
def lookN (l : List S50) (c : Int) : Int := if isAt l c (placeN l c) = true then glyAt (atS l (placeN l c)) c else 0
theorem srch_step (l : List S50) (c : Int) (k i j : Nat) : srch l c (k + 1) i j = if i < j then (if (atS l ((i + j) / 2)).f1 < c then srch l c k ((i + j) / 2 + 1) j else srch l c k i ((i + j) / 2)) else i := rfl
theorem srch_done (l : List S50) (c : Int) (k i j : Nat) (h : ¬ i < j) : srch l c k i j = i := by
 cases k with
 | zero => rfl
 | succ k => rw [srch_step, if_neg h]
theorem srch_up (l : List S50) (c : Int) (k i j h : Nat) (hk : j ≤ i + (k + 1)) (hlt : i < j) (hh : h = (i + j) / 2) (hc : decide ((atS l h).f1 < c) = true) : srch l c (k + 1) i j = srch l c k (h + 1) j := by
 rw [srch_step, if_pos hlt, ← hh, if_pos (of_decide_eq_true hc)]
theorem srch_down (l : List S50) (c : Int) (k i j h : Nat) (hlt : i < j) (hh : h = (i + j) / 2) (hc : decide ((atS l h).f1 < c) = false) : srch l c (k + 1) i j = srch l c k i h := by
 rw [srch_step, if_pos hlt, ← hh, if_neg (of_decide_eq_false hc)]
def Goes (l : List S50) (c : Int) (i j r : Nat) : Prop := ∀ k, j - i ≤ k → srch l c k i j = r
theorem goes_all (l : List S50) (c : Int) : ∀ (d i j : Nat), j - i ≤ d → ∀ k, j - i ≤ k → srch l c k i j = srch l c d i j
 | 0, i, j, hd, k, hk => by rw [srch_done l c k i j (by omega), srch_done l c 0 i j (by omega)]
 | d + 1, i, j, hd, k, hk => by
  by_cases hlt : i < j
  ·
   obtain ⟨k, rfl⟩ : ∃ n, k = n + 1 := ⟨k - 1, by omega⟩
   rw [srch_step, srch_step, if_pos hlt, if_pos hlt]
   split
   · exact goes_all l c d _ j (by omega) k (by omega)
   · exact goes_all l c d i _ (by omega) k (by omega)
  · rw [srch_done l c k i j hlt, srch_done l c (d + 1) i j hlt]
theorem goes_start (l : List S50) (c : Int) : Goes l c 0 l.length (placeN l c) := fun k hk => goes_all l c l.length 0 l.length (by omega) k hk
theorem goes_up {l : List S50} {c : Int} {i j r h : Nat} (H : Goes l c i j r) (hlt : i < j) (hh : h = (i + j) / 2) (hc : decide ((atS l h).f1 < c) = true) : Goes l c (h + 1) j r := fun k hk => by
 have := H (k + (j - i) + 1) (by omega)
 rw [srch_up l c _ i j h (by omega) hlt hh hc] at this
 rw [← this]
 exact goes_all l c (k + (j - i)) (h + 1) j (by omega) k hk
theorem goes_down {l : List S50} {c : Int} {i j r h : Nat} (H : Goes l c i j r) (hlt : i < j) (hh : h = (i + j) / 2) (hc : decide ((atS l h).f1 < c) = false) : Goes l c i h r := fun k hk => by
 have := H (k + (j - i) + 1) (by omega)
 rw [srch_down l c _ i j h hlt hh hc] at this
 rw [← this]
 exact goes_all l c (k + (j - i)) i h (by omega) k hk
theorem goes_end {l : List S50} {c : Int} {i j r : Nat} (H : Goes l c i j r) (h : ¬ i < j) : i = r := by
 have := H (j - i) (Nat.le_refl _)
 rwa [srch_done l c _ i j h] at this
theorem mid_of {i j h : Nat} (hs : i + j ≤ 131072) (hh : h = (i + j) / 2) : wrap64 (IntKind.u64.wrap (wrap64 ((i : Int) + (j : Int))) / 2) = (h : Int) := by
 have e0 : wrap64 ((i : Int) + (j : Int)) = (i : Int) + (j : Int) := by unfold wrap64; omega
 rw [e0]
 have e : IntKind.u64.wrap ((i : Int) + (j : Int)) = (i : Int) + (j : Int) := by
  unfold IntKind.wrap
  simp [IntKind.bits, IntKind.signed]
  omega
 rw [e, hh]
 unfold wrap64; omega
set_option maxRecDepth 100000 in
set_option maxHeartbeats 2000000 in
theorem search_calls (A0 : Option Addr) (c0 : Nat) (l : List S50) (c : Int) (w : World) (hr0 : Kd.C k50 w A0 l.length l) (hl : l.length ≤ 65536) (r : Nat) (hr : placeN l c = r) :
  Calls Try.prog 55 #[.slice A0 l.length c0, .int .i64 c, .func (.func 56) #[] #[]] w fun e w' => e = .returned (.tuple #[.int .i64 (r : Int), .bool (isAt l c r)]) ∧ Below w.heap.size w w' := by
 have HR0 := Lib.hid hr0
 have HL := Lib.hid hl
 have HS := Lib.hid (show Goes l c 0 l.length r by rw [← hr]; exact goes_start l c)
 clear hr0 hl hr
 go_enter Try.func55, Try.ntmps55
 go_wp2_with fail
 go_loopw [9, 10] (fun v9 v10 wr => ∃ (i j : Nat), i ≤ l.length ∧ j ≤ l.length ∧ v9 = .int .i64 (i : Int) ∧ v10 = .int .i64 (j : Int) ∧ Aside0 (i ≤ j) ∧ Aside0 (Below w.heap.size w wr) ∧ Aside0 (Goes l c i j r)) (fun v9 v10 _ => (intOf v10 - intOf v9).toNat)
 case atStart => exact ⟨0, l.length, by omega, by omega, rfl, rfl, ⟨by omega⟩, ⟨Below.refl _ _⟩, ⟨HS.out⟩⟩
 case round =>
  obtain ⟨i, j, hi, hj, rfl, rfl, HIJ, HB, HG⟩ := hrel
  by_cases hlt : i < j
  ·
   have d1 : decide ((i : Int) < (j : Int)) = true := decide_eq_true (by omega)
   have d2 : decide (i < j) = true := decide_eq_true hlt
   obtain ⟨h, hh⟩ : ∃ h, h = (i + j) / 2 := ⟨_, rfl⟩
   have hm := mid_of (i := i) (j := j) (by have := HL.out; omega) hh
   have p0 : (0 : Int) ≤ (h : Int) := by omega
   have p1 : (h : Int) < (l.length : Int) := by omega
   have hw : wrap64 ((h : Int) + 1) = ((h + 1 : Nat) : Int) := by have := HL.out; unfold wrap64; omega
   obtain ⟨ad, rfl, x0, x1, x2, x3⟩ := at_T50 HR0.out (h : Int) p0 p1
   rw [rd_atS] at x0 x1 x2 x3
   obtain ⟨x, hx⟩ : ∃ x, x = atS l h := ⟨_, rfl⟩
   rw [← hx] at x0 x1 x2 x3
   rw [Int.toNat_natCast] at x0 x1 x2 x3
   replace x0 := (HB.out.cell (World.block_lt_of_cell? _ _ x0)).trans x0
   replace x1 := (HB.out.cell (World.block_lt_of_cell? _ _ x1)).trans x1
   replace x2 := (HB.out.cell (World.block_lt_of_cell? _ _ x2)).trans x2
   replace x3 := (HB.out.cell (World.block_lt_of_cell? _ _ x3)).trans x3
   have HH := Lib.hid hh
   have HX := Lib.hid hx
   have HLT := Lib.hid hlt
   have HHJ := Lib.hid (show h < j ∧ i ≤ h by omega)
   clear hh hx hlt
   replace p0 := eq_true p0
   replace p1 := eq_true p1
   go_wp2_with fail
   refine (chart_look_1.calls x.f0 x.f1 x.f2 x.f3 c (cmpN x c) _ (cmp_some x c)).mono ?_
   rintro e w1 ⟨rfl, hb⟩
   have HB2 := Lib.hid (HB.out.trans (hb.mono HB.out.size))
   obtain ⟨y, hy⟩ : ∃ y, y = cmpN x c := ⟨_, rfl⟩
   rw [← hy]
   by_cases hc : x.f1 < c
   ·
    have d3 : decide (y < 0) = true := by rw [hy, cmp_lt]; exact decide_eq_true hc
    have HG2 := Lib.hid (goes_up HG.out HLT.out HH.out (by rw [← HX.out]; exact decide_eq_true hc))
    clear hb hy hc
    go_wp2
    go_roundw
    case rel => exact ⟨h + 1, j, by have := HHJ.out; omega, hj, by rw [hw], rfl, ⟨by have := HHJ.out; omega⟩, ⟨HB2.out⟩, ⟨HG2.out⟩⟩
    case measure => rw [hw]; have := HHJ.out; have := HLT.out; simp only [intOf]; omega
   ·
    have d3 : decide (y < 0) = false := by rw [hy, cmp_lt]; exact decide_eq_false hc
    have HG2 := Lib.hid (goes_down HG.out HLT.out HH.out (by rw [← HX.out]; exact decide_eq_false hc))
    clear hb hy hc
    go_wp2
    go_roundw
    case rel => exact ⟨i, h, hi, by have := HHJ.out; omega, rfl, rfl, ⟨by have := HHJ.out; omega⟩, ⟨HB2.out⟩, ⟨HG2.out⟩⟩
    case measure => have := HHJ.out; have := HLT.out; simp only [intOf]; omega
  ·
   have d1 : decide ((i : Int) < (j : Int)) = false := decide_eq_false (by omega)
   have d2 : decide (i < j) = false := decide_eq_false hlt
   have hir : i = r := goes_end HG.out hlt
   subst hir
   by_cases hn : i < l.length
   ·
    have p0 : (0 : Int) ≤ (i : Int) := by omega
    have p1 : (i : Int) < (l.length : Int) := by omega
    have d3 : decide ((i : Int) < (l.length : Int)) = true := decide_eq_true p1
    have d4 : decide (i < l.length) = true := decide_eq_true hn
    obtain ⟨ad, rfl, x0, x1, x2, x3⟩ := at_T50 HR0.out (i : Int) p0 p1
    rw [rd_atS] at x0 x1 x2 x3
    obtain ⟨x, hx⟩ : ∃ x, x = atS l i := ⟨_, rfl⟩
    rw [← hx] at x0 x1 x2 x3
    rw [Int.toNat_natCast] at x0 x1 x2 x3
    replace x0 := (HB.out.cell (World.block_lt_of_cell? _ _ x0)).trans x0
    replace x1 := (HB.out.cell (World.block_lt_of_cell? _ _ x1)).trans x1
    replace x2 := (HB.out.cell (World.block_lt_of_cell? _ _ x2)).trans x2
    replace x3 := (HB.out.cell (World.block_lt_of_cell? _ _ x3)).trans x3
    have HRE := Lib.hid (show isAt l c i = (cmpN x c == 0) by unfold isAt; rw [decide_eq_true hn, Bool.true_and, hx])
    clear hx hn
    replace p0 := eq_true p0
    replace p1 := eq_true p1
    go_wp2_with fail
    refine (chart_look_1.calls x.f0 x.f1 x.f2 x.f3 c (cmpN x c) _ (cmp_some x c)).mono ?_
    rintro e w1 ⟨rfl, hb⟩
    have HB2 := Lib.hid (HB.out.trans (hb.mono HB.out.size))
    obtain ⟨y, hy⟩ : ∃ y, y = cmpN x c := ⟨_, rfl⟩
    rw [← hy] at HRE ⊢
    clear hb hy
    go_wp2
    go_ret2
    rw [HRE.out]
    exact ⟨rfl, HB2.out⟩
   ·
    have d3 : decide ((i : Int) < (l.length : Int)) = false := decide_eq_false (by omega)
    have d4 : decide (i < l.length) = false := decide_eq_false hn
    have HRE := Lib.hid (show isAt l c i = false by unfold isAt; rw [decide_eq_false hn, Bool.false_and])
    clear hn
    go_wp2
    go_ret2
    rw [HRE.out]
    exact ⟨rfl, HB.out⟩
theorem isAt_in {l : List S50} {c : Int} {i : Nat} (h : isAt l c i = true) : i < l.length := by
 unfold isAt at h
 rw [Bool.and_eq_true] at h
 exact of_decide_eq_true h.1
set_option maxRecDepth 100000 in
set_option maxHeartbeats 2000000 in
theorem look_walk (A0 : Option Addr) (c0 : Nat) (l : List S50) (c : Int) (w : World) (hr0 : Kd.C k50 w A0 l.length l) (hl : l.length ≤ 65536) (r : Int) (hr : lookN l c = r) :
  Calls Try.prog 32 #[.slice A0 l.length c0, .int .i64 c] w fun e w' => e = .returned (.int .i64 r) ∧ Below w.heap.size w w' := by
 obtain ⟨i, hi⟩ : ∃ i, i = placeN l c := ⟨_, rfl⟩
 have H := Lib.hid (search_calls A0 c0 l c w hr0 hl i hi.symm)
 have hr' : (if isAt l c i = true then glyAt (atS l i) c else 0) = r := by rw [← hr, hi]; rfl
 obtain ⟨b, hb⟩ : ∃ b, b = isAt l c i := ⟨_, rfl⟩
 have hin : b = true → i < l.length := fun h => isAt_in (hb.symm.trans h)
 rw [← hb] at hr' H
 have HR0 := Lib.hid hr0
 clear hi hr hb hr0 hl
 cases b with
 | false =>
  rw [if_neg Bool.false_ne_true] at hr'
  have HRE := Lib.hid hr'
  clear hr' hin
  go_enter Try.func32, Try.ntmps32
  go_wp2_with fail
  refine H.out.mono ?_
  rintro e w1 ⟨rfl, hb⟩
  have HB := Lib.hid hb
  clear hb H
  go_wp2
  go_ret
  rw [← HRE.out]
  exact ⟨rfl, HB.out⟩
 | true =>
  rw [if_pos rfl] at hr'
  have hn := hin rfl
  have p0 : (0 : Int) ≤ (i : Int) := by omega
  have p1 : (i : Int) < (l.length : Int) := by omega
  obtain ⟨ad, rfl, x0, x1, x2, x3⟩ := at_T50 HR0.out (i : Int) p0 p1
  rw [rd_atS] at x0 x1 x2 x3
  obtain ⟨x, hx⟩ : ∃ x, x = atS l i := ⟨_, rfl⟩
  rw [← hx] at x0 x1 x2 x3 hr'
  rw [Int.toNat_natCast] at x0 x1 x2 x3
  have HRE := Lib.hid hr'
  clear hr' hin hn hx
  replace p0 := eq_true p0
  replace p1 := eq_true p1
  go_enter Try.func32, Try.ntmps32
  go_wp2_with fail
  refine H.out.mono ?_
  rintro e w1 ⟨rfl, hb⟩
  have HB := Lib.hid hb
  replace x0 := (hb.cell (World.block_lt_of_cell? _ _ x0)).trans x0
  replace x1 := (hb.cell (World.block_lt_of_cell? _ _ x1)).trans x1
  replace x2 := (hb.cell (World.block_lt_of_cell? _ _ x2)).trans x2
  replace x3 := (hb.cell (World.block_lt_of_cell? _ _ x3)).trans x3
  clear hb H
  go_wp2_with fail
  refine (chart_span_glyph.calls x.f0 x.f1 x.f2 x.f3 c (glyAt x c) _ rfl).mono ?_
  rintro e w2 ⟨rfl, hb⟩
  have HB2 := Lib.hid (HB.out.trans (hb.mono HB.out.size))
  obtain ⟨y, hy⟩ : ∃ y, y = glyAt x c := ⟨_, rfl⟩
  rw [← hy] at HRE ⊢
  clear hb hy
  go_wp2
  go_ret
  rw [HRE.out]
  exact ⟨rfl, HB2.out⟩
def chart_look.f (l0 : List S50) (a1 : Int) : Option Int := if l0.length ≤ 65536 then some (lookN l0 a1) else none
theorem chart_look.calls (A0 : Option Addr) (c0 : Nat) (l0 : List S50) (a1 : Int) (r : Int) (w : World) (hr0 : Kd.C k50 w A0 l0.length l0) (hc0 : l0.length ≤ c0) (h : chart_look.f l0 a1 = some r) :
  Calls Try.prog 32 #[.slice A0 l0.length c0, .int .i64 a1] w fun e w' => e = .returned (.int .i64 r) ∧ Below w.heap.size w w' := by
 unfold chart_look.f at h
 split at h
 ·
  rename_i hl
  exact look_walk A0 c0 l0 a1 w hr0 hl r (Option.some.inj h)
 · exact absurd h (by simp)
end Go.Proofs.Ytejdflndgnpkcaa.P
end
section
namespace Go.Proofs.Ytejdflndgnpkcaa.P
open Go.RowKit Go.Proofs.YtejdflndgnpkcaaW.PrintWords Go.Proofs.YtejdflndgnpkcaaW.PrintLast Go.Proofs.YtejdflndgnpkcaaW.PrintMore
attribute [local go_sem] max2_int min2_int max_two min_two max_three min_three max_four min_four
def chart_Look.f (l0 : List (S50)) (a1 : Int) : Option (Int) := (chart_Is.f l0).bind fun t229 => (if t229 = true then ((chart_look.f l0 a1).bind fun t230 => (some t230)) else (some 0))
set_option maxHeartbeats 8000000 in
set_option maxRecDepth 100000 in
theorem chart_Look.calls (A0 : Option Addr) (c0 : Nat) (l0 : List (S50)) (a1 : Int) (r : Int) (w : World) (hr0 : Kd.C k50 w A0 l0.length l0) (hc0 : l0.length ≤ c0) (h : chart_Look.f l0 a1 = some r) :
  Calls Try.prog 16 #[.slice A0 l0.length c0, .int .i64 a1] w fun e w' => e = .returned (.int .i64 r) ∧ Below w.heap.size w w' := by
 have HR0 := Aside0.mk hr0
 have HC0 := Aside0.mk hc0
 clear hr0 hc0
 have HB := Aside0.mk (Below.refl w.heap.size w)
 have H : ((chart_Is.f l0).bind fun t229 => (if t229 = true then ((chart_look.f l0 a1).bind fun t230 => (some t230)) else (some 0))) = some r := h
 clear h
 replace H := Option.bind_eq_some_iff.mp H
 obtain ⟨t229, A30, H⟩ := H
 try dsimp only at H
 have A3 := Aside0.mk A30
 clear A30
 by_cases c4 : t229 = true
 ·
  subst c4
  rw [if_pos rfl] at H
  replace H := Option.bind_eq_some_iff.mp H
  obtain ⟨t230, A50, H⟩ := H
  try dsimp only at H
  have A5 := Aside0.mk A50
  clear A50
  obtain rfl := Option.some.inj H
  go_enter Try.func16, Try.ntmps16
  go_wp2_with (first | ((with_reducible refine gate_callee (f := 15) rfl ?_); refine gL_ 6 Try.func15 #[.slice A0 l0.length c0] ?_; (with_reducible refine (chart_Is.calls _ _ l0 true _ ?side1 ?side2 A3.out).mono ?_); (case side1 => exact cA HR0.out); (case side2 => exact HC0.out); rintro e w6 ⟨rfl, hb⟩; refine ⟨_, rfl, ?_⟩; have n0_ := Aside0.mk (below_step bA hb); clear HB; have HB := n0_; clear n0_; (try clear hb)) | ((with_reducible refine gate_callee (f := 32) rfl ?_); refine gL_ 10 Try.func32 #[.slice A0 l0.length c0, .int .i64 a1] ?_; (with_reducible refine (chart_look.calls _ _ l0 a1 t230 _ ?side1 ?side2 A5.out).mono ?_); (case side1 => repeat (first | exact (Kd.C_below HR0.out HB.out) | (with_reducible refine Kd.C_alloc ?_ _) | (with_reducible refine Kd.C_drewN ?_ _) | (with_reducible refine Kd.C_drew ?_))); (case side2 => exact HC0.out); rintro e w7 ⟨rfl, hb⟩; refine ⟨_, rfl, ?_⟩; have n0_ := Aside0.mk (below_step bA hb); clear HB; have HB := n0_; clear n0_; (try clear hb)))
  go_ret
  exact ⟨eA, bA⟩
 ·
  replace c4 := Bool.eq_false_iff.mpr c4
  subst c4
  rw [if_neg Bool.false_ne_true] at H
  obtain rfl := Option.some.inj H
  go_enter Try.func16, Try.ntmps16
  go_wp2_with (first | ((with_reducible refine gate_callee (f := 15) rfl ?_); refine gL_ 6 Try.func15 #[.slice A0 l0.length c0] ?_; (with_reducible refine (chart_Is.calls _ _ l0 false _ ?side1 ?side2 A3.out).mono ?_); (case side1 => exact cA HR0.out); (case side2 => exact HC0.out); rintro e w8 ⟨rfl, hb⟩; refine ⟨_, rfl, ?_⟩; have n0_ := Aside0.mk (below_step bA hb); clear HB; have HB := n0_; clear n0_; (try clear hb)))
  go_ret
  exact ⟨eA, bA⟩
end Go.Proofs.Ytejdflndgnpkcaa.P
end
section
namespace Go.Proofs.Ytejdflndgnpkcaa.P
open Go.RowKit Go.Proofs.YtejdflndgnpkcaaW.PrintWords Go.Proofs.YtejdflndgnpkcaaW.PrintLast Go.Proofs.YtejdflndgnpkcaaW.PrintMore
attribute [local go_sem] max2_int min2_int max_two min_two max_three min_three max_four min_four
def cmap_Glyph.f (l0 : List (S50)) (a1 : Int) (a2 : Int) : Option (Int × Int) := (chart_Is.f l0).bind fun t231 => (if t231 = true then ((chart_Look.f l0 a1).bind fun t232 => (if t232 = 0 then (some (0, 10)) else (if t232 ≥ a2 then (some (0, 10)) else (some (t232, 0))))) else (some (0, 1)))
set_option maxHeartbeats 8000000 in
set_option maxRecDepth 100000 in
theorem cmap_Glyph.calls (A0 : Option Addr) (c0 : Nat) (l0 : List (S50)) (a1 : Int) (a2 : Int) (r1 : Int) (r2 : Int) (w : World) (hr0 : Kd.C k50 w A0 l0.length l0) (hc0 : l0.length ≤ c0) (h : cmap_Glyph.f l0 a1 a2 = some (r1, r2)) :
  Calls Try.prog 10 #[.slice A0 l0.length c0, .int .i64 a1, .int .i64 a2] w fun e w' => e = .returned (.tuple #[.int .i64 r1, .int .i64 r2]) ∧ Below w.heap.size w w' := by
 have HR0 := Aside0.mk hr0
 have HC0 := Aside0.mk hc0
 clear hr0 hc0
 have HB := Aside0.mk (Below.refl w.heap.size w)
 have H : ((chart_Is.f l0).bind fun t231 => (if t231 = true then ((chart_Look.f l0 a1).bind fun t232 => (if t232 = 0 then (some (0, 10)) else (if t232 ≥ a2 then (some (0, 10)) else (some (t232, 0))))) else (some (0, 1)))) = some (r1, r2) := h
 clear h
 replace H := Option.bind_eq_some_iff.mp H
 obtain ⟨t231, A40, H⟩ := H
 try dsimp only at H
 have A4 := Aside0.mk A40
 clear A40
 by_cases c5 : t231 = true
 ·
  subst c5
  rw [if_pos rfl] at H
  replace H := Option.bind_eq_some_iff.mp H
  obtain ⟨t232, A60, H⟩ := H
  try dsimp only at H
  have A6 := Aside0.mk A60
  clear A60
  by_cases c7 : t232 = 0
  ·
   rw [if_pos c7] at H
   have c7b0 : (t232 == 0) = true := beq_iff_eq.mpr c7
   have c7b1 : (t232 != 0) = false := bne_eq_false_iff_eq.mpr c7
   clear c7
   simp only [Option.some.injEq, Prod.mk.injEq] at H
   obtain ⟨rfl, rfl⟩ := H
   go_enter Try.func10, Try.ntmps10
   go_wp2_with (first | ((with_reducible refine gate_callee (f := 15) rfl ?_); refine gL_ 10 Try.func15 #[.slice A0 l0.length c0] ?_; (with_reducible refine (chart_Is.calls _ _ l0 true _ ?side1 ?side2 A4.out).mono ?_); (case side1 => exact cA HR0.out); (case side2 => exact HC0.out); rintro e w8 ⟨rfl, hb⟩; refine ⟨_, rfl, ?_⟩; have n0_ := Aside0.mk (below_step bA hb); clear HB; have HB := n0_; clear n0_; (try clear hb)) | ((with_reducible refine gate_callee (f := 16) rfl ?_); refine gL_ 14 Try.func16 #[.slice A0 l0.length c0, .int .i64 a1] ?_; (with_reducible refine (chart_Look.calls _ _ l0 a1 t232 _ ?side1 ?side2 A6.out).mono ?_); (case side1 => repeat (first | exact (Kd.C_below HR0.out HB.out) | (with_reducible refine Kd.C_alloc ?_ _) | (with_reducible refine Kd.C_drewN ?_ _) | (with_reducible refine Kd.C_drew ?_))); (case side2 => exact HC0.out); rintro e w9 ⟨rfl, hb⟩; refine ⟨_, rfl, ?_⟩; have n0_ := Aside0.mk (below_step bA hb); clear HB; have HB := n0_; clear n0_; (try clear hb)))
   go_ret2
   exact ⟨eA, bA⟩
  ·
   rw [if_neg c7] at H
   have c7b0 : (t232 == 0) = false := beq_eq_false_iff_ne.mpr c7
   have c7b1 : (t232 != 0) = true := bne_iff_ne.mpr c7
   by_cases c10 : t232 ≥ a2
   ·
    rw [if_pos c10] at H
    have c10b0 : decide (a2 ≤ t232) = true := decide_eq_true c10
    clear c10
    simp only [Option.some.injEq, Prod.mk.injEq] at H
    obtain ⟨rfl, rfl⟩ := H
    go_enter Try.func10, Try.ntmps10
    go_wp2_with (first | ((with_reducible refine gate_callee (f := 15) rfl ?_); refine gL_ 10 Try.func15 #[.slice A0 l0.length c0] ?_; (with_reducible refine (chart_Is.calls _ _ l0 true _ ?side1 ?side2 A4.out).mono ?_); (case side1 => exact cA HR0.out); (case side2 => exact HC0.out); rintro e w11 ⟨rfl, hb⟩; refine ⟨_, rfl, ?_⟩; have n0_ := Aside0.mk (below_step bA hb); clear HB; have HB := n0_; clear n0_; (try clear hb)) | ((with_reducible refine gate_callee (f := 16) rfl ?_); refine gL_ 14 Try.func16 #[.slice A0 l0.length c0, .int .i64 a1] ?_; (with_reducible refine (chart_Look.calls _ _ l0 a1 t232 _ ?side1 ?side2 A6.out).mono ?_); (case side1 => repeat (first | exact (Kd.C_below HR0.out HB.out) | (with_reducible refine Kd.C_alloc ?_ _) | (with_reducible refine Kd.C_drewN ?_ _) | (with_reducible refine Kd.C_drew ?_))); (case side2 => exact HC0.out); rintro e w12 ⟨rfl, hb⟩; refine ⟨_, rfl, ?_⟩; have n0_ := Aside0.mk (below_step bA hb); clear HB; have HB := n0_; clear n0_; (try clear hb)))
    go_ret2
    exact ⟨eA, bA⟩
   ·
    rw [if_neg c10] at H
    have c10b0 : decide (a2 ≤ t232) = false := decide_eq_false c10
    clear c10
    simp only [Option.some.injEq, Prod.mk.injEq] at H
    obtain ⟨rfl, rfl⟩ := H
    go_enter Try.func10, Try.ntmps10
    go_wp2_with (first | ((with_reducible refine gate_callee (f := 15) rfl ?_); refine gL_ 10 Try.func15 #[.slice A0 l0.length c0] ?_; (with_reducible refine (chart_Is.calls _ _ l0 true _ ?side1 ?side2 A4.out).mono ?_); (case side1 => exact cA HR0.out); (case side2 => exact HC0.out); rintro e w13 ⟨rfl, hb⟩; refine ⟨_, rfl, ?_⟩; have n0_ := Aside0.mk (below_step bA hb); clear HB; have HB := n0_; clear n0_; (try clear hb)) | ((with_reducible refine gate_callee (f := 16) rfl ?_); refine gL_ 14 Try.func16 #[.slice A0 l0.length c0, .int .i64 a1] ?_; (with_reducible refine (chart_Look.calls _ _ l0 a1 t232 _ ?side1 ?side2 A6.out).mono ?_); (case side1 => repeat (first | exact (Kd.C_below HR0.out HB.out) | (with_reducible refine Kd.C_alloc ?_ _) | (with_reducible refine Kd.C_drewN ?_ _) | (with_reducible refine Kd.C_drew ?_))); (case side2 => exact HC0.out); rintro e w14 ⟨rfl, hb⟩; refine ⟨_, rfl, ?_⟩; have n0_ := Aside0.mk (below_step bA hb); clear HB; have HB := n0_; clear n0_; (try clear hb)))
    go_ret2
    exact ⟨eA, bA⟩
 ·
  replace c5 := Bool.eq_false_iff.mpr c5
  subst c5
  rw [if_neg Bool.false_ne_true] at H
  simp only [Option.some.injEq, Prod.mk.injEq] at H
  obtain ⟨rfl, rfl⟩ := H
  go_enter Try.func10, Try.ntmps10
  go_wp2_with (first | ((with_reducible refine gate_callee (f := 15) rfl ?_); refine gL_ 10 Try.func15 #[.slice A0 l0.length c0] ?_; (with_reducible refine (chart_Is.calls _ _ l0 false _ ?side1 ?side2 A4.out).mono ?_); (case side1 => exact cA HR0.out); (case side2 => exact HC0.out); rintro e w15 ⟨rfl, hb⟩; refine ⟨_, rfl, ?_⟩; have n0_ := Aside0.mk (below_step bA hb); clear HB; have HB := n0_; clear n0_; (try clear hb)))
  go_ret2
  exact ⟨eA, bA⟩
end Go.Proofs.Ytejdflndgnpkcaa.P
end
