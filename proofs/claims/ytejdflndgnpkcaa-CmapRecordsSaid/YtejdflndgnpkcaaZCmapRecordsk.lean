/- Words, contracts and plain facts of the proof. Each says its own condition. -/
import Derived.Test.YtejdflndgnpkcaaZCmapRecordsj
import Derived.Test.YtejdflndgnpkcaaZCmapRecordsi
import Derived.Deep.WholeRow
import Derived.Deep.RegionHeld3
import Derived.WalkMore
import Derived.Lib.Hide
set_option linter.unusedVariables false
set_option linter.unusedSimpArgs false
section
namespace Go.Proofs.Ytejdflndgnpkcaa.P
open Go.RowKit Go.Proofs.YtejdflndgnpkcaaW.PrintWords Go.Proofs.YtejdflndgnpkcaaW.PrintLast Go.Proofs.YtejdflndgnpkcaaW.PrintMore
def rightN (x : S50) : Bool := decide (0 ≤ x.f0) && (decide (x.f0 ≤ x.f1) && (decide (x.f1 ≤ 1114111) && ((x.f3 == 0 || x.f3 == 1) && (decide (0 ≤ x.f2) && (decide (x.f2 ≤ 65535) && decide (x.f2 + x.f3 * (x.f1 - x.f0) ≤ 65535))))))
theorem glyph_bound {a b c : Int} (h0 : 0 ≤ a) (h1 : a ≤ b) (h2 : b ≤ 1114111) (h3 : 0 ≤ c) (h4 : c ≤ 65535) (s : Int) (hs : s = 0 ∨ s = 1) : wrap64 (c + wrap64 (s * wrap64 (b - a))) = c + s * (b - a) := by
 have e1 : wrap64 (b - a) = b - a := by unfold wrap64; omega
 rw [e1]
 rcases hs with rfl | rfl
 ·
  rw [Int.zero_mul]
  unfold wrap64; omega
 ·
  rw [Int.one_mul]
  unfold wrap64; omega
theorem right_some (x : S50) : chart_span_right.f x.f0 x.f1 x.f2 x.f3 = some (rightN x) := by
 obtain ⟨a, b, c, s⟩ := x
 unfold chart_span_right.f rightN
 simp only
 by_cases h1 : 0 ≤ a
 ·
  rw [if_pos h1, decide_eq_true h1, Bool.true_and]
  by_cases h2 : a ≤ b
  ·
   rw [if_pos h2, decide_eq_true h2, Bool.true_and]
   by_cases h3 : b ≤ 1114111
   ·
    rw [if_pos h3, decide_eq_true h3, Bool.true_and]
    have hg : ∀ (hs : s = 0 ∨ s = 1), (if c ≥ 0 then (if c ≤ 65535 then ((chart_span_glyph.f a b c s b).bind fun t => (some (decide (t ≤ 65535)))) else (some false)) else (some false)) = some (decide (0 ≤ c) && (decide (c ≤ 65535) && decide (c + s * (b - a) ≤ 65535))) := fun hs => by
     by_cases h4 : 0 ≤ c
     ·
      rw [if_pos h4, decide_eq_true h4, Bool.true_and]
      by_cases h5 : c ≤ 65535
      ·
       rw [if_pos h5, decide_eq_true h5, Bool.true_and]
       unfold chart_span_glyph.f
       rw [Option.bind_some, glyph_bound h1 h2 h3 h4 h5 s hs]
      · rw [if_neg h5, decide_eq_false h5, Bool.false_and]
     · rw [if_neg h4, decide_eq_false h4, Bool.false_and]
    by_cases h6 : s = 0
    · rw [if_pos h6, hg (.inl h6), show (s == 0) = true from beq_iff_eq.2 h6, Bool.true_or, Bool.true_and]
    ·
     rw [if_neg h6, show (s == 0) = false from beq_eq_false_iff_ne.2 h6, Bool.false_or]
     by_cases h7 : s = 1
     · rw [if_pos h7, hg (.inr h7), show (s == 1) = true from beq_iff_eq.2 h7, Bool.true_and]
     · rw [if_neg h7, show (s == 1) = false from beq_eq_false_iff_ne.2 h7, Bool.false_and]
   · rw [if_neg h3, decide_eq_false h3, Bool.false_and]
  · rw [if_neg h2, decide_eq_false h2, Bool.false_and]
 · rw [if_neg h1, decide_eq_false h1, Bool.false_and]
def ordN : List S50 → Bool
 | [] => true
 | [_] => true
 | x :: y :: r => decide (x.f1 < y.f0) && ordN (y :: r)
def isL (l : List S50) : Bool := decide (l.length ≤ 65536) && (l.all rightN && ordN l)
set_option maxHeartbeats 2000000 in
theorem all1_calls (q : Addr) (x : S50) (w : World) (hq : w.cell? q = some (.func (.func 31) #[] #[])) :
  Calls Try.prog 53 #[.agg #[.int .i64 x.f0, .int .i64 x.f1, .int .i64 x.f2, .int .i64 x.f3], .pointer (some q)] w fun e w' => e = .returned (.bool (!rightN x)) ∧ Below w.heap.size w w' := by
 have HB := Aside0.mk (Below.refl w.heap.size w)
 have hq1 := cell_al (.cells #[.int .i64 x.f0, .int .i64 x.f1, .int .i64 x.f2, .int .i64 x.f3] 50) hq
 go_enter Try.func53, Try.ntmps53
 go_wp2_with fail
 refine (chart_span_right.calls x.f0 x.f1 x.f2 x.f3 _ _ (right_some x)).mono ?_
 rintro e w8 ⟨rfl, hb⟩
 have HB2 := Lib.hid (((Below.refl w.heap.size w).alloc (Nat.le_refl _) _).trans (hb.mono (by simp)))
 clear hb
 go_wp2
 go_ret
 exact ⟨rfl, HB2.out⟩
def idxN (p : S50 → Bool) : List S50 → Nat → Int
 | [], _ => -1
 | x :: l, i => if p x = true then (i : Int) else idxN p l (i + 1)
theorem idx_yes (p : S50 → Bool) (x : S50) (l : List S50) (i : Nat) (h : p x = false) : idxN p (x :: l) i = idxN p l (i + 1) := by
 conv => lhs; unfold idxN
 rw [if_neg (by rw [h]; exact Bool.false_ne_true)]
theorem idx_no (p : S50 → Bool) (x : S50) (l : List S50) (i : Nat) (h : p x = true) : idxN p (x :: l) i = (i : Int) := by
 conv => lhs; unfold idxN
 rw [if_pos h]
theorem idx_any (p : S50 → Bool) : ∀ (l : List S50) (i : Nat), decide (0 ≤ idxN p l i) = l.any p
 | [], i => rfl
 | x :: l, i => by
  rw [List.any_cons]
  cases h : p x with
  | true => rw [idx_no p x l i h]; simp
  | false => rw [idx_yes p x l i h, idx_any p l (i + 1)]; rfl
def EntersK (K : Nat) : Prop := ∀ (xs : Array Value) (W : World), Sem.run Try.prog (callFunc K xs) W = .ok (.enter K xs) W
theorem entersK_of {K : Nat} {F : Func} (hf : Try.prog.funcs[K]? = some F) (hn : (F.name == "runtime.NumGoroutine") = false) (hb : F.body.isNone = false) : EntersK K := fun xs W => by
 have h1 : ¬ F.name = "runtime.NumGoroutine" := beq_eq_false_iff_ne.1 hn
 have h2 : ¬ F.body = none := fun e => by rw [e] at hb; exact absurd hb (by decide)
 simp [callFunc, go_sem, hf]
 rw [if_neg h1, if_neg h2]
theorem enters_all1 : EntersK 53 := entersK_of Try.func53 (by kernel_rfl) (by kernel_rfl)
def Tests (K : Nat) (fr : Array Value) (p : S50 → Bool) (w0 : World) : Prop := ∀ (x : S50) (W : World), Below w0.heap.size w0 W → Calls Try.prog K (#[.agg #[.int .i64 x.f0, .int .i64 x.f1, .int .i64 x.f2, .int .i64 x.f3]] ++ fr) W fun e w' => e = .returned (.bool (p x)) ∧ Below W.heap.size W w'
set_option maxRecDepth 100000 in
set_option maxHeartbeats 2000000 in
theorem index_calls (K : Nat) (fr : Array Value) (p : S50 → Bool) (A0 : Option Addr) (c0 : Nat) (l : List S50) (w : World) (hr0 : Kd.C k50 w A0 l.length l) (hp : Tests K fr p w) (he : EntersK K) :
  Calls Try.prog 79 #[.slice A0 l.length c0, .func (.func K) #[] fr] w fun e w' => e = .returned (.int .i64 (idxN p l 0)) ∧ Below w.heap.size w w' := by
 have hl := Kd.C_max hr0
 have HR0 := Lib.hid hr0
 have HL := Lib.hid hl
 have HP := Lib.hid hp
 unfold EntersK at he
 clear hr0 hl hp
 go_enter Try.func79, Try.ntmps79
 go_wp2_with fail
 go_loopw [8] (fun v8 wr => ∃ (i : Nat), i ≤ l.length ∧ v8 = .int .i64 (i : Int) ∧ Aside0 (Below w.heap.size w wr) ∧ Aside0 (idxN p (l.drop i) i = idxN p l 0)) (fun v8 _ => l.length - (intOf v8).toNat)
 case atStart => exact ⟨0, by omega, rfl, ⟨Below.refl _ _⟩, ⟨rfl⟩⟩
 case round =>
  obtain ⟨i, hi, rfl, HB, HI⟩ := hrel
  by_cases hlt : i < l.length
  ·
   have q0 : (0 : Int) ≤ (i : Int) := by omega
   have q1 : (i : Int) < (l.length : Int) := by omega
   have d1 : decide ((i : Int) < (l.length : Int)) = true := decide_eq_true q1
   have hwi : wrap64 ((i : Int) + 1) = ((i + 1 : Nat) : Int) := by have := HL.out; unfold wrap64; omega
   obtain ⟨ad, rfl, x0, x1, x2, x3⟩ := at_T50 HR0.out (i : Int) q0 q1
   obtain ⟨x, hx⟩ : ∃ x, x = rd_T50 l (i : Int) := ⟨_, rfl⟩
   rw [← hx] at x0 x1 x2 x3
   rw [Int.toNat_natCast] at x0 x1 x2 x3
   replace x0 := (HB.out.cell (World.block_lt_of_cell? _ _ x0)).trans x0
   replace x1 := (HB.out.cell (World.block_lt_of_cell? _ _ x1)).trans x1
   replace x2 := (HB.out.cell (World.block_lt_of_cell? _ _ x2)).trans x2
   replace x3 := (HB.out.cell (World.block_lt_of_cell? _ _ x3)).trans x3
   have hdr : l.drop i = x :: l.drop (i + 1) := by rw [List.drop_eq_getElem_cons hlt, hx]; unfold rd_T50; simp [List.getD_eq_getElem?_getD, List.getElem?_eq_getElem hlt]
   have HDR := Lib.hid hdr
   clear hdr hx
   replace q0 := eq_true q0
   replace q1 := eq_true q1
   go_wp2_with fail
   refine (HP.out x _ HB.out).mono ?_
   rintro e w1 ⟨rfl, hb⟩
   have HB2 := Lib.hid (HB.out.trans (hb.mono HB.out.size))
   clear hb
   cases hq : p x with
   | false =>
    have HN := Lib.hid (show idxN p (l.drop (i + 1)) (i + 1) = idxN p l 0 by
     have := HI.out
     rw [HDR.out, idx_yes p x _ i hq] at this
     exact this)
    clear hq
    go_wp2
    go_roundw
    case rel => exact ⟨i + 1, hlt, by rw [hwi], ⟨HB2.out⟩, ⟨HN.out⟩⟩
    case measure => rw [hwi]; exact less_step (by decide) hlt
   | true =>
    have hres : idxN p l 0 = (i : Int) := by
     rw [← HI.out, HDR.out, idx_no p x _ i hq]
    have HRE := Lib.hid hres
    clear hq hres
    go_wp2
    go_ret
    rw [HRE.out]
    exact ⟨rfl, HB2.out⟩
  ·
   have hie : i = l.length := by omega
   have d1 : decide ((i : Int) < (l.length : Int)) = false := decide_eq_false (by omega)
   have hres : idxN p l 0 = -1 := by rw [← HI.out, hie, List.drop_length]; rfl
   have HRE := Lib.hid hres
   clear hie hres
   go_wp2
   go_ret
   rw [HRE.out]
   exact ⟨rfl, HB.out⟩
set_option maxHeartbeats 1000000 in
theorem contains_calls (K : Nat) (fr : Array Value) (p : S50 → Bool) (A0 : Option Addr) (c0 : Nat) (l : List S50) (w : World) (hr0 : Kd.C k50 w A0 l.length l) (hp : Tests K fr p w) (he : EntersK K) :
  Calls Try.prog 52 #[.slice A0 l.length c0, .func (.func K) #[] fr] w fun e w' => e = .returned (.bool (l.any p)) ∧ Below w.heap.size w w' := by
 have H := Lib.hid (index_calls K fr p A0 c0 l w hr0 hp he)
 have HI := Lib.hid (idx_any p l 0)
 clear hr0 hp
 go_enter Try.func52, Try.ntmps52
 go_wp2_with fail
 refine H.out.mono ?_
 rintro e w1 ⟨rfl, hb⟩
 obtain ⟨j, hj⟩ : ∃ j, j = idxN p l 0 := ⟨_, rfl⟩
 have HI2 := Lib.hid (show l.any p = decide (0 ≤ j) by rw [hj]; exact HI.out.symm)
 rw [← hj]
 have HBB := Lib.hid hb
 clear H HI hj hb
 go_wp2
 go_ret
 rw [HI2.out]
 exact ⟨rfl, HBB.out⟩
set_option maxHeartbeats 1000000 in
theorem all_calls (A0 : Option Addr) (c0 : Nat) (l : List S50) (w : World) (hr0 : Kd.C k50 w A0 l.length l) :
  Calls Try.prog 30 #[.slice A0 l.length c0, .func (.func 31) #[] #[]] w fun e w' => e = .returned (.bool (l.all rightN)) ∧ Below w.heap.size w w' := by
 have hb0 := (Below.refl w.heap.size w).alloc (Nat.le_refl _) (.cells #[.func (.func 31) #[] #[]] 69)
 have hc : (w.alloc (.cells #[.func (.func 31) #[] #[]] 69)).cell? ⟨w.heap.size, 0, none⟩ = some (.func (.func 31) #[] #[]) := by simp [go_sem]
 have H := Lib.hid (contains_calls 53 #[.pointer (some ⟨w.heap.size, 0, none⟩)] (fun x => !rightN x) A0 c0 l (w.alloc (.cells #[.func (.func 31) #[] #[]] 69)) (Kd.C_alloc hr0 _)
  (fun x W hW => all1_calls ⟨w.heap.size, 0, none⟩ x W ((hW.cell (World.block_lt_of_cell? _ _ hc)).trans hc)) enters_all1)
 have HB0 := Lib.hid hb0
 have HA := Lib.hid (show (!(l.any fun x => !rightN x)) = l.all rightN by rw [List.not_any_eq_all_not]; simp)
 clear hr0 hb0 hc
 go_enter Try.func30, Try.ntmps30
 go_wp2_with fail
 refine H.out.mono ?_
 rintro e w1 ⟨rfl, hb⟩
 obtain ⟨j, hj⟩ : ∃ j, j = l.any (fun x => !rightN x) := ⟨_, rfl⟩
 have HBB := Lib.hid (HB0.out.trans (hb.mono HB0.out.size))
 rw [← hj] at HA ⊢
 clear H hj hb
 go_wp2
 go_ret
 rw [← HA.out]
 exact ⟨rfl, HBB.out⟩
theorem ord_step (x y : S50) (r : List S50) : ordN (x :: y :: r) = (decide (x.f1 < y.f0) && ordN (y :: r)) := by
 conv => lhs; unfold ordN
theorem ord_at (l : List S50) (i : Nat) (h : i + 1 < l.length) : ordN (l.drop i) = (decide (l[i].f1 < l[i + 1].f0) && ordN (l.drop (i + 1))) := by
 rw [List.drop_eq_getElem_cons (by omega), List.drop_eq_getElem_cons h, ord_step]
theorem ord_last (l : List S50) (i : Nat) (h : i + 1 = l.length) : ordN (l.drop i) = true := by
 rw [List.drop_eq_getElem_cons (by omega), List.drop_eq_nil_of_le (by omega)]
 rfl
set_option maxRecDepth 100000 in
set_option maxHeartbeats 2000000 in
theorem chart_is_many (A0 : Option Addr) (c0 n : Nat) (w : World) (h : 65536 < n) (h2 : n ≤ 9223372036854775807) :
  Calls Try.prog 15 #[.slice A0 n c0] w fun e w' => e = .returned (.bool false) ∧ Below w.heap.size w w' := by
 have d2 : decide ((65536 : Int) < (n : Int)) = true := decide_eq_true (by omega)
 have d3 : decide (65536 < n) = true := decide_eq_true h
 clear h h2
 go_enter Try.func15, Try.ntmps15
 go_wp2
 go_ret
 exact ⟨rfl, Below.refl _ _⟩
set_option maxRecDepth 100000 in
set_option maxHeartbeats 2000000 in
theorem chart_is_wrong (A0 : Option Addr) (c0 : Nat) (l : List S50) (w : World) (hr0 : Kd.C k50 w A0 l.length l) (hl : l.length ≤ 65536) (ha : l.all rightN = false) :
  Calls Try.prog 15 #[.slice A0 l.length c0] w fun e w' => e = .returned (.bool false) ∧ Below w.heap.size w w' := by
 have d2 : decide ((65536 : Int) < (l.length : Int)) = false := decide_eq_false (by omega)
 have d3 : decide (65536 < l.length) = false := decide_eq_false (by omega)
 have H := Lib.hid (all_calls A0 c0 l w hr0)
 rw [ha] at H
 clear ha hr0 hl
 go_enter Try.func15, Try.ntmps15
 go_wp2_with fail
 refine H.out.mono ?_
 rintro e w1 ⟨rfl, hb⟩
 have HB := Lib.hid hb
 clear hb H
 go_wp2
 go_ret
 exact ⟨rfl, HB.out⟩
set_option maxRecDepth 100000 in
set_option maxHeartbeats 2000000 in
theorem chart_is_walk (A0 : Option Addr) (c0 : Nat) (l : List S50) (w : World) (hr0 : Kd.C k50 w A0 l.length l) (hl : l.length ≤ 65536) (ha : l.all rightN = true) (r : Bool) (hr : ordN l = r) :
  Calls Try.prog 15 #[.slice A0 l.length c0] w fun e w' => e = .returned (.bool r) ∧ Below w.heap.size w w' := by
 have d2 : decide ((65536 : Int) < (l.length : Int)) = false := decide_eq_false (by omega)
 have d3 : decide (65536 < l.length) = false := decide_eq_false (by omega)
 have H := Lib.hid (all_calls A0 c0 l w hr0)
 rw [ha] at H
 have HR0 := Lib.hid hr0
 have HR := Lib.hid hr
 have HL := Lib.hid hl
 clear ha hr0 hl hr
 go_enter Try.func15, Try.ntmps15
 go_wp2_with fail
 refine H.out.mono ?_
 rintro e w1 ⟨rfl, hb⟩
 have HB1 := Lib.hid hb
 clear hb H
 go_wp2
 go_loopw [14] (fun v14 wr => ∃ (i : Nat), i ≤ l.length ∧ v14 = .int .i64 (i : Int) ∧ Aside0 (Below w.heap.size w wr) ∧ Aside0 (ordN (l.drop (i - 1)) = r)) (fun v14 _ => l.length - (intOf v14).toNat)
 case atStart => exact ⟨0, by omega, rfl, ⟨HB1.out⟩, ⟨by simpa using HR.out⟩⟩
 case round =>
  obtain ⟨i, hi, rfl, HB, HI⟩ := hrel
  by_cases hlt : i < l.length
  ·
   have q0 : (0 : Int) ≤ (i : Int) := by omega
   have q1 : (i : Int) < (l.length : Int) := by omega
   have d1 : decide ((i : Int) < (l.length : Int)) = true := decide_eq_true q1
   have hwi : wrap64 ((i : Int) + 1) = ((i + 1 : Nat) : Int) := by have := HL.out; unfold wrap64; omega
   by_cases h0 : i = 0
   ·
    have d4 : decide ((0 : Int) < (i : Int)) = false := decide_eq_false (by omega)
    have d5 : decide (0 < i) = false := decide_eq_false (by omega)
    have HN := Lib.hid (show ordN (l.drop (i + 1 - 1)) = r by have := HI.out; rw [h0] at this ⊢; exact this)
    clear h0 q0 q1
    go_wp2_with fail
    go_quiet (fail)
    go_wp2
    go_roundw
    case rel => exact ⟨i + 1, hlt, by rw [hwi], ⟨pw_below_drewN HB.out _⟩, ⟨HN.out⟩⟩
    case measure => rw [hwi]; exact less_step (by decide) hlt
   ·
    have d4 : decide ((0 : Int) < (i : Int)) = true := decide_eq_true (by omega)
    have d5 : decide (0 < i) = true := decide_eq_true (by omega)
    have hw1 : wrap64 ((i : Int) - 1) = ((i - 1 : Nat) : Int) := by have := HL.out; unfold wrap64; omega
    obtain ⟨j, hj⟩ : ∃ j, j = i - 1 := ⟨_, rfl⟩
    rw [← hj] at hw1 HI
    have p0 : (0 : Int) ≤ (j : Int) := by omega
    have p1 : (j : Int) < (l.length : Int) := by omega
    obtain ⟨ad, rfl, x0, x1, x2, x3⟩ := at_T50 HR0.out (i : Int) q0 q1
    obtain ⟨_, e, y0, y1, y2, y3⟩ := at_T50 HR0.out (j : Int) p0 p1
    cases e
    have hxi : rd_T50 l (i : Int) = l[i] := by unfold rd_T50; simp [List.getD_eq_getElem?_getD, List.getElem?_eq_getElem hlt]
    have hjl : j < l.length := by omega
    have hyj : rd_T50 l (j : Int) = l[j] := by unfold rd_T50; simp [List.getD_eq_getElem?_getD, List.getElem?_eq_getElem hjl]
    have hstep : ordN (l.drop j) = (decide (l[j].f1 < l[i].f0) && ordN (l.drop i)) := by
     have := ord_at l j (by omega)
     have e : j + 1 = i := by omega
     simp only [e] at this
     exact this
    rw [hxi] at x0 x1 x2 x3
    rw [hyj] at y0 y1 y2 y3
    obtain ⟨x, hx⟩ : ∃ x, x = l[i] := ⟨_, rfl⟩
    obtain ⟨y, hy⟩ : ∃ y, y = l[j] := ⟨_, rfl⟩
    rw [← hx] at x0 hstep
    rw [← hy] at y1 hstep
    rw [Int.toNat_natCast] at x0 y1
    replace x0 := (HB.out.cell (World.block_lt_of_cell? _ _ x0)).trans x0
    replace y1 := (HB.out.cell (World.block_lt_of_cell? _ _ y1)).trans y1
    rw [hstep] at HI
    clear hxi hyj hstep hx hy x1 x2 x3 y0 y2 y3 h0 hj hjl
    replace q0 := eq_true q0
    replace q1 := eq_true q1
    replace p0 := eq_true p0
    replace p1 := eq_true p1
    by_cases hle : x.f0 ≤ y.f1
    ·
     have d6 : decide (x.f0 ≤ y.f1) = true := decide_eq_true hle
     have d7 : decide (y.f1 < x.f0) = false := decide_eq_false (by omega)
     rw [d7, Bool.false_and] at HI
     have HRE := Lib.hid HI.out
     clear hle d7 HI
     go_wp2_with fail
     go_quiet (fail)
     go_wp2
     go_ret
     rw [HRE.out]
     exact ⟨rfl, pw_below_drewN HB.out _⟩
    ·
     have d6 : decide (x.f0 ≤ y.f1) = false := decide_eq_false hle
     have d7 : decide (y.f1 < x.f0) = true := decide_eq_true (by omega)
     rw [d7, Bool.true_and] at HI
     have HRE := Lib.hid (show ordN (l.drop (i + 1 - 1)) = r from HI.out)
     clear hle d7 HI
     go_wp2_with fail
     go_quiet (fail)
     go_wp2
     go_roundw
     case rel => exact ⟨i + 1, hlt, by rw [hwi], ⟨pw_below_drewN HB.out _⟩, ⟨HRE.out⟩⟩
     case measure => rw [hwi]; exact less_step (by decide) hlt
  ·
   have hie : i = l.length := by omega
   have d1 : decide ((i : Int) < (l.length : Int)) = false := decide_eq_false (by omega)
   have hres : r = true := by
    rw [← HI.out]
    by_cases h0 : l.length = 0
    · rw [List.length_eq_zero_iff.1 h0]; simp; rfl
    · exact ord_last l (i - 1) (by omega)
   have HRE := Lib.hid hres
   clear hie hres
   go_wp2
   go_ret
   rw [HRE.out]
   exact ⟨rfl, HB.out⟩
def chart_Is.f (l0 : List S50) : Option Bool := some (isL l0)
theorem chart_Is.calls (A0 : Option Addr) (c0 : Nat) (l0 : List S50) (r : Bool) (w : World) (hr0 : Kd.C k50 w A0 l0.length l0) (hc0 : l0.length ≤ c0) (h : chart_Is.f l0 = some r) :
  Calls Try.prog 15 #[.slice A0 l0.length c0] w fun e w' => e = .returned (.bool r) ∧ Below w.heap.size w w' := by
 have hr := Option.some.inj h
 unfold isL at hr
 by_cases h1 : l0.length ≤ 65536
 ·
  rw [decide_eq_true h1, Bool.true_and] at hr
  cases ha : l0.all rightN with
  | true => rw [ha, Bool.true_and] at hr; exact chart_is_walk A0 c0 l0 w hr0 h1 ha r hr
  | false => rw [ha, Bool.false_and] at hr; rw [← hr]; exact chart_is_wrong A0 c0 l0 w hr0 h1 ha
 ·
  rw [decide_eq_false h1, Bool.false_and] at hr
  rw [← hr]
  exact chart_is_many A0 c0 l0.length w (by omega) (Kd.C_max hr0)
end Go.Proofs.Ytejdflndgnpkcaa.P
end
section
namespace Go.Proofs.Ytejdflndgnpkcaa.P
open Go.RowKit Go.Proofs.YtejdflndgnpkcaaW.PrintWords Go.Proofs.YtejdflndgnpkcaaW.PrintLast Go.Proofs.YtejdflndgnpkcaaW.PrintMore
def atS (l : List S50) (i : Nat) : S50 := l.getD i z50
theorem rd_atS (l : List S50) (i : Nat) : rd_T50 l (i : Int) = atS l i := rfl
theorem atS_get (l : List S50) (i : Nat) (h : i < l.length) : atS l i = l[i] := by
 unfold atS
 rw [List.getD_eq_getElem?_getD, List.getElem?_eq_getElem h]; rfl
def srch (l : List S50) (c : Int) : Nat → Nat → Nat → Nat
 | 0, i, _ => i
 | k + 1, i, j => if i < j then (if (atS l ((i + j) / 2)).f1 < c then srch l c k ((i + j) / 2 + 1) j else srch l c k i ((i + j) / 2)) else i
def cmpN (x : S50) (c : Int) : Int := if x.f1 < c then -1 else if x.f0 > c then 1 else 0
theorem cmp_some (x : S50) (c : Int) : chart_look_1.f x.f0 x.f1 x.f2 x.f3 c = some (cmpN x c) := by
 unfold chart_look_1.f cmpN
 by_cases h : x.f1 < c
 · rw [if_pos h, if_pos h]
 ·
  rw [if_neg h, if_neg h]
  by_cases h2 : x.f0 > c
  · rw [if_pos h2, if_pos h2]
  · rw [if_neg h2, if_neg h2]
theorem cmp_lt (x : S50) (c : Int) : decide (cmpN x c < 0) = decide (x.f1 < c) := by
 unfold cmpN
 by_cases h : x.f1 < c
 · rw [if_pos h, decide_eq_true h]; rfl
 ·
  rw [if_neg h, decide_eq_false h]
  by_cases h2 : x.f0 > c
  · rw [if_pos h2]; rfl
  · rw [if_neg h2]; rfl
def isAt (l : List S50) (c : Int) (i : Nat) : Bool := decide (i < l.length) && (cmpN (atS l i) c == 0)
def glyAt (x : S50) (c : Int) : Int := wrap64 (x.f2 + wrap64 (x.f3 * wrap64 (c - x.f0)))
def placeN (l : List S50) (c : Int) : Nat := srch l c l.length 0 l.length
def lookN (l : List S50) (c : Int) : Int := if isAt l c (placeN l c) = true then glyAt (atS l (placeN l c)) c else 0
theorem srch_step (l : List S50) (c : Int) (k i j : Nat) : srch l c (k + 1) i j = if i < j then (if (atS l ((i + j) / 2)).f1 < c then srch l c k ((i + j) / 2 + 1) j else srch l c k i ((i + j) / 2)) else i := rfl
theorem srch_done (l : List S50) (c : Int) (k i j : Nat) (h : ¬ i < j) : srch l c k i j = i := by
 cases k with
 | zero => rfl
 | succ k => rw [srch_step, if_neg h]
theorem srch_up (l : List S50) (c : Int) (k i j h : Nat) (hk : j ≤ i + (k + 1)) (hlt : i < j) (hh : h = (i + j) / 2) (hc : decide ((atS l h).f1 < c) = true) : srch l c (k + 1) i j = srch l c k (h + 1) j := by
 rw [srch_step, if_pos hlt, ← hh, if_pos (of_decide_eq_true hc)]
theorem srch_down (l : List S50) (c : Int) (k i j h : Nat) (hlt : i < j) (hh : h = (i + j) / 2) (hc : decide ((atS l h).f1 < c) = false) : srch l c (k + 1) i j = srch l c k i h := by
 rw [srch_step, if_pos hlt, ← hh, if_neg (of_decide_eq_false hc)]
def Goes (l : List S50) (c : Int) (i j r : Nat) : Prop := ∀ k, j - i ≤ k → srch l c k i j = r
theorem goes_all (l : List S50) (c : Int) : ∀ (d i j : Nat), j - i ≤ d → ∀ k, j - i ≤ k → srch l c k i j = srch l c d i j
 | 0, i, j, hd, k, hk => by rw [srch_done l c k i j (by omega), srch_done l c 0 i j (by omega)]
 | d + 1, i, j, hd, k, hk => by
  by_cases hlt : i < j
  ·
   obtain ⟨k, rfl⟩ : ∃ n, k = n + 1 := ⟨k - 1, by omega⟩
   rw [srch_step, srch_step, if_pos hlt, if_pos hlt]
   split
   · exact goes_all l c d _ j (by omega) k (by omega)
   · exact goes_all l c d i _ (by omega) k (by omega)
  · rw [srch_done l c k i j hlt, srch_done l c (d + 1) i j hlt]
theorem goes_start (l : List S50) (c : Int) : Goes l c 0 l.length (placeN l c) := fun k hk => goes_all l c l.length 0 l.length (by omega) k hk
theorem goes_up {l : List S50} {c : Int} {i j r h : Nat} (H : Goes l c i j r) (hlt : i < j) (hh : h = (i + j) / 2) (hc : decide ((atS l h).f1 < c) = true) : Goes l c (h + 1) j r := fun k hk => by
 have := H (k + (j - i) + 1) (by omega)
 rw [srch_up l c _ i j h (by omega) hlt hh hc] at this
 rw [← this]
 exact goes_all l c (k + (j - i)) (h + 1) j (by omega) k hk
theorem goes_down {l : List S50} {c : Int} {i j r h : Nat} (H : Goes l c i j r) (hlt : i < j) (hh : h = (i + j) / 2) (hc : decide ((atS l h).f1 < c) = false) : Goes l c i h r := fun k hk => by
 have := H (k + (j - i) + 1) (by omega)
 rw [srch_down l c _ i j h hlt hh hc] at this
 rw [← this]
 exact goes_all l c (k + (j - i)) i h (by omega) k hk
theorem goes_end {l : List S50} {c : Int} {i j r : Nat} (H : Goes l c i j r) (h : ¬ i < j) : i = r := by
 have := H (j - i) (Nat.le_refl _)
 rwa [srch_done l c _ i j h] at this
theorem mid_of {i j h : Nat} (hs : i + j ≤ 131072) (hh : h = (i + j) / 2) : wrap64 (IntKind.u64.wrap (wrap64 ((i : Int) + (j : Int))) / 2) = (h : Int) := by
 have e0 : wrap64 ((i : Int) + (j : Int)) = (i : Int) + (j : Int) := by unfold wrap64; omega
 rw [e0]
 have e : IntKind.u64.wrap ((i : Int) + (j : Int)) = (i : Int) + (j : Int) := by
  unfold IntKind.wrap
  simp [IntKind.bits, IntKind.signed]
  omega
 rw [e, hh]
 unfold wrap64; omega
set_option maxRecDepth 100000 in
set_option maxHeartbeats 2000000 in
theorem search_calls (A0 : Option Addr) (c0 : Nat) (l : List S50) (c : Int) (w : World) (hr0 : Kd.C k50 w A0 l.length l) (hl : l.length ≤ 65536) (r : Nat) (hr : placeN l c = r) :
  Calls Try.prog 55 #[.slice A0 l.length c0, .int .i64 c, .func (.func 56) #[] #[]] w fun e w' => e = .returned (.tuple #[.int .i64 (r : Int), .bool (isAt l c r)]) ∧ Below w.heap.size w w' := by
 have HR0 := Lib.hid hr0
 have HL := Lib.hid hl
 have HS := Lib.hid (show Goes l c 0 l.length r by rw [← hr]; exact goes_start l c)
 clear hr0 hl hr
 go_enter Try.func55, Try.ntmps55
 go_wp2_with fail
 go_loopw [9, 10] (fun v9 v10 wr => ∃ (i j : Nat), i ≤ l.length ∧ j ≤ l.length ∧ v9 = .int .i64 (i : Int) ∧ v10 = .int .i64 (j : Int) ∧ Aside0 (i ≤ j) ∧ Aside0 (Below w.heap.size w wr) ∧ Aside0 (Goes l c i j r)) (fun v9 v10 _ => (intOf v10 - intOf v9).toNat)
 case atStart => exact ⟨0, l.length, by omega, by omega, rfl, rfl, ⟨by omega⟩, ⟨Below.refl _ _⟩, ⟨HS.out⟩⟩
 case round =>
  obtain ⟨i, j, hi, hj, rfl, rfl, HIJ, HB, HG⟩ := hrel
  by_cases hlt : i < j
  ·
   have d1 : decide ((i : Int) < (j : Int)) = true := decide_eq_true (by omega)
   have d2 : decide (i < j) = true := decide_eq_true hlt
   obtain ⟨h, hh⟩ : ∃ h, h = (i + j) / 2 := ⟨_, rfl⟩
   have hm := mid_of (i := i) (j := j) (by have := HL.out; omega) hh
   have p0 : (0 : Int) ≤ (h : Int) := by omega
   have p1 : (h : Int) < (l.length : Int) := by omega
   have hw : wrap64 ((h : Int) + 1) = ((h + 1 : Nat) : Int) := by have := HL.out; unfold wrap64; omega
   obtain ⟨ad, rfl, x0, x1, x2, x3⟩ := at_T50 HR0.out (h : Int) p0 p1
   rw [rd_atS] at x0 x1 x2 x3
   obtain ⟨x, hx⟩ : ∃ x, x = atS l h := ⟨_, rfl⟩
   rw [← hx] at x0 x1 x2 x3
   rw [Int.toNat_natCast] at x0 x1 x2 x3
   replace x0 := (HB.out.cell (World.block_lt_of_cell? _ _ x0)).trans x0
   replace x1 := (HB.out.cell (World.block_lt_of_cell? _ _ x1)).trans x1
   replace x2 := (HB.out.cell (World.block_lt_of_cell? _ _ x2)).trans x2
   replace x3 := (HB.out.cell (World.block_lt_of_cell? _ _ x3)).trans x3
   have HH := Lib.hid hh
   have HX := Lib.hid hx
   have HLT := Lib.hid hlt
   have HHJ := Lib.hid (show h < j ∧ i ≤ h by omega)
   clear hh hx hlt
   replace p0 := eq_true p0
   replace p1 := eq_true p1
   go_wp2_with fail
   refine (chart_look_1.calls x.f0 x.f1 x.f2 x.f3 c (cmpN x c) _ (cmp_some x c)).mono ?_
   rintro e w1 ⟨rfl, hb⟩
   have HB2 := Lib.hid (HB.out.trans (hb.mono HB.out.size))
   obtain ⟨y, hy⟩ : ∃ y, y = cmpN x c := ⟨_, rfl⟩
   rw [← hy]
   by_cases hc : x.f1 < c
   ·
    have d3 : decide (y < 0) = true := by rw [hy, cmp_lt]; exact decide_eq_true hc
    have HG2 := Lib.hid (goes_up HG.out HLT.out HH.out (by rw [← HX.out]; exact decide_eq_true hc))
    clear hb hy hc
    go_wp2
    go_roundw
    case rel => exact ⟨h + 1, j, by have := HHJ.out; omega, hj, by rw [hw], rfl, ⟨by have := HHJ.out; omega⟩, ⟨HB2.out⟩, ⟨HG2.out⟩⟩
    case measure => rw [hw]; have := HHJ.out; have := HLT.out; simp only [intOf]; omega
   ·
    have d3 : decide (y < 0) = false := by rw [hy, cmp_lt]; exact decide_eq_false hc
    have HG2 := Lib.hid (goes_down HG.out HLT.out HH.out (by rw [← HX.out]; exact decide_eq_false hc))
    clear hb hy hc
    go_wp2
    go_roundw
    case rel => exact ⟨i, h, hi, by have := HHJ.out; omega, rfl, rfl, ⟨by have := HHJ.out; omega⟩, ⟨HB2.out⟩, ⟨HG2.out⟩⟩
    case measure => have := HHJ.out; have := HLT.out; simp only [intOf]; omega
  ·
   have d1 : decide ((i : Int) < (j : Int)) = false := decide_eq_false (by omega)
   have d2 : decide (i < j) = false := decide_eq_false hlt
   have hir : i = r := goes_end HG.out hlt
   subst hir
   by_cases hn : i < l.length
   ·
    have p0 : (0 : Int) ≤ (i : Int) := by omega
    have p1 : (i : Int) < (l.length : Int) := by omega
    have d3 : decide ((i : Int) < (l.length : Int)) = true := decide_eq_true p1
    have d4 : decide (i < l.length) = true := decide_eq_true hn
    obtain ⟨ad, rfl, x0, x1, x2, x3⟩ := at_T50 HR0.out (i : Int) p0 p1
    rw [rd_atS] at x0 x1 x2 x3
    obtain ⟨x, hx⟩ : ∃ x, x = atS l i := ⟨_, rfl⟩
    rw [← hx] at x0 x1 x2 x3
    rw [Int.toNat_natCast] at x0 x1 x2 x3
    replace x0 := (HB.out.cell (World.block_lt_of_cell? _ _ x0)).trans x0
    replace x1 := (HB.out.cell (World.block_lt_of_cell? _ _ x1)).trans x1
    replace x2 := (HB.out.cell (World.block_lt_of_cell? _ _ x2)).trans x2
    replace x3 := (HB.out.cell (World.block_lt_of_cell? _ _ x3)).trans x3
    have HRE := Lib.hid (show isAt l c i = (cmpN x c == 0) by unfold isAt; rw [decide_eq_true hn, Bool.true_and, hx])
    clear hx hn
    replace p0 := eq_true p0
    replace p1 := eq_true p1
    go_wp2_with fail
    refine (chart_look_1.calls x.f0 x.f1 x.f2 x.f3 c (cmpN x c) _ (cmp_some x c)).mono ?_
    rintro e w1 ⟨rfl, hb⟩
    have HB2 := Lib.hid (HB.out.trans (hb.mono HB.out.size))
    obtain ⟨y, hy⟩ : ∃ y, y = cmpN x c := ⟨_, rfl⟩
    rw [← hy] at HRE ⊢
    clear hb hy
    go_wp2
    go_ret2
    rw [HRE.out]
    exact ⟨rfl, HB2.out⟩
   ·
    have d3 : decide ((i : Int) < (l.length : Int)) = false := decide_eq_false (by omega)
    have d4 : decide (i < l.length) = false := decide_eq_false hn
    have HRE := Lib.hid (show isAt l c i = false by unfold isAt; rw [decide_eq_false hn, Bool.false_and])
    clear hn
    go_wp2
    go_ret2
    rw [HRE.out]
    exact ⟨rfl, HB.out⟩
theorem isAt_in {l : List S50} {c : Int} {i : Nat} (h : isAt l c i = true) : i < l.length := by
 unfold isAt at h
 rw [Bool.and_eq_true] at h
 exact of_decide_eq_true h.1
set_option maxRecDepth 100000 in
set_option maxHeartbeats 2000000 in
theorem look_walk (A0 : Option Addr) (c0 : Nat) (l : List S50) (c : Int) (w : World) (hr0 : Kd.C k50 w A0 l.length l) (hl : l.length ≤ 65536) (r : Int) (hr : lookN l c = r) :
  Calls Try.prog 32 #[.slice A0 l.length c0, .int .i64 c] w fun e w' => e = .returned (.int .i64 r) ∧ Below w.heap.size w w' := by
 obtain ⟨i, hi⟩ : ∃ i, i = placeN l c := ⟨_, rfl⟩
 have H := Lib.hid (search_calls A0 c0 l c w hr0 hl i hi.symm)
 have hr' : (if isAt l c i = true then glyAt (atS l i) c else 0) = r := by rw [← hr, hi]; rfl
 obtain ⟨b, hb⟩ : ∃ b, b = isAt l c i := ⟨_, rfl⟩
 have hin : b = true → i < l.length := fun h => isAt_in (hb.symm.trans h)
 rw [← hb] at hr' H
 have HR0 := Lib.hid hr0
 clear hi hr hb hr0 hl
 cases b with
 | false =>
  rw [if_neg Bool.false_ne_true] at hr'
  have HRE := Lib.hid hr'
  clear hr' hin
  go_enter Try.func32, Try.ntmps32
  go_wp2_with fail
  refine H.out.mono ?_
  rintro e w1 ⟨rfl, hb⟩
  have HB := Lib.hid hb
  clear hb H
  go_wp2
  go_ret
  rw [← HRE.out]
  exact ⟨rfl, HB.out⟩
 | true =>
  rw [if_pos rfl] at hr'
  have hn := hin rfl
  have p0 : (0 : Int) ≤ (i : Int) := by omega
  have p1 : (i : Int) < (l.length : Int) := by omega
  obtain ⟨ad, rfl, x0, x1, x2, x3⟩ := at_T50 HR0.out (i : Int) p0 p1
  rw [rd_atS] at x0 x1 x2 x3
  obtain ⟨x, hx⟩ : ∃ x, x = atS l i := ⟨_, rfl⟩
  rw [← hx] at x0 x1 x2 x3 hr'
  rw [Int.toNat_natCast] at x0 x1 x2 x3
  have HRE := Lib.hid hr'
  clear hr' hin hn hx
  replace p0 := eq_true p0
  replace p1 := eq_true p1
  go_enter Try.func32, Try.ntmps32
  go_wp2_with fail
  refine H.out.mono ?_
  rintro e w1 ⟨rfl, hb⟩
  have HB := Lib.hid hb
  replace x0 := (hb.cell (World.block_lt_of_cell? _ _ x0)).trans x0
  replace x1 := (hb.cell (World.block_lt_of_cell? _ _ x1)).trans x1
  replace x2 := (hb.cell (World.block_lt_of_cell? _ _ x2)).trans x2
  replace x3 := (hb.cell (World.block_lt_of_cell? _ _ x3)).trans x3
  clear hb H
  go_wp2_with fail
  refine (chart_span_glyph.calls x.f0 x.f1 x.f2 x.f3 c (glyAt x c) _ rfl).mono ?_
  rintro e w2 ⟨rfl, hb⟩
  have HB2 := Lib.hid (HB.out.trans (hb.mono HB.out.size))
  obtain ⟨y, hy⟩ : ∃ y, y = glyAt x c := ⟨_, rfl⟩
  rw [← hy] at HRE ⊢
  clear hb hy
  go_wp2
  go_ret
  rw [HRE.out]
  exact ⟨rfl, HB2.out⟩
def chart_look.f (l0 : List S50) (a1 : Int) : Option Int := if l0.length ≤ 65536 then some (lookN l0 a1) else none
theorem chart_look.calls (A0 : Option Addr) (c0 : Nat) (l0 : List S50) (a1 : Int) (r : Int) (w : World) (hr0 : Kd.C k50 w A0 l0.length l0) (hc0 : l0.length ≤ c0) (h : chart_look.f l0 a1 = some r) :
  Calls Try.prog 32 #[.slice A0 l0.length c0, .int .i64 a1] w fun e w' => e = .returned (.int .i64 r) ∧ Below w.heap.size w w' := by
 unfold chart_look.f at h
 split at h
 ·
  rename_i hl
  exact look_walk A0 c0 l0 a1 w hr0 hl r (Option.some.inj h)
 · exact absurd h (by simp)
end Go.Proofs.Ytejdflndgnpkcaa.P
end
section
namespace Go.Proofs.Ytejdflndgnpkcaa.P
open Go.RowKit Go.Proofs.YtejdflndgnpkcaaW.PrintWords Go.Proofs.YtejdflndgnpkcaaW.PrintLast Go.Proofs.YtejdflndgnpkcaaW.PrintMore
def fstAt (x : S50) : Int := if x.f2 = 0 then wrap64 (x.f0 + x.f3) else x.f0
def hasN (x : S50) : Bool := decide (glyAt x (fstAt x) > 0) && decide (fstAt x ≤ x.f1)
theorem first_some (x : S50) : chart_span_first.f x.f0 x.f1 x.f2 x.f3 = some (fstAt x, hasN x) := by
 unfold chart_span_first.f hasN fstAt
 by_cases h : x.f2 = 0
 ·
  rw [if_pos h, if_pos h]
  show (some (glyAt x (wrap64 (x.f0 + x.f3)))).bind _ = _
  rw [Option.bind_some]
  by_cases h2 : glyAt x (wrap64 (x.f0 + x.f3)) > 0
  · rw [if_pos h2, decide_eq_true h2, Bool.true_and]
  · rw [if_neg h2, decide_eq_false h2, Bool.false_and]
 ·
  rw [if_neg h, if_neg h]
  show (some (glyAt x x.f0)).bind _ = _
  rw [Option.bind_some]
  by_cases h2 : glyAt x x.f0 > 0
  · rw [if_pos h2, decide_eq_true h2, Bool.true_and]
  · rw [if_neg h2, decide_eq_false h2, Bool.false_and]
theorem ends1_some (x : S50) : chart_ends_1.f x.f0 x.f1 x.f2 x.f3 = some (hasN x) := by
 unfold chart_ends_1.f
 rw [first_some]
 rfl
def lastN (a : Int) : List S50 → Int
 | [] => a
 | x :: r => lastN (if hasN x = true then x.f1 else a) r
def endsN : List S50 → Int × Int × Bool
 | [] => (0, 0, false)
 | x :: r => if hasN x = true then (fstAt x, lastN (fstAt x) (x :: r), true) else endsN r
theorem idx_bound (p : S50 → Bool) : ∀ (l : List S50) (i : Nat), idxN p l i = -1 ∨ ∃ j, i ≤ j ∧ j < i + l.length ∧ idxN p l i = (j : Int)
 | [], i => .inl rfl
 | x :: l, i => by
  cases h : p x with
  | true => exact .inr ⟨i, Nat.le_refl _, by simp, idx_no p x l i h⟩
  | false =>
   rw [idx_yes p x l i h]
   rcases idx_bound p l (i + 1) with h | ⟨j, h1, h2, h3⟩
   · exact .inl h
   · exact .inr ⟨j, by omega, by simp; omega, h3⟩
theorem ends_none : ∀ (l : List S50) (i : Nat), idxN hasN l i = -1 → endsN l = (0, 0, false)
 | [], i, _ => rfl
 | x :: l, i, h => by
  cases hx : hasN x with
  | true => rw [idx_no hasN x l i hx] at h; omega
  | false =>
   rw [idx_yes hasN x l i hx] at h
   unfold endsN
   rw [hx, if_neg Bool.false_ne_true]
   exact ends_none l (i + 1) h
theorem ends_some : ∀ (l : List S50) (i j : Nat), idxN hasN l i = ((i + j : Nat) : Int) → j < l.length → endsN l = (fstAt (atS l j), lastN (fstAt (atS l j)) (l.drop j), true)
 | [], i, j, _, hj => absurd hj (by simp)
 | x :: l, i, j, h, hj => by
  cases hx : hasN x with
  | true =>
   rw [idx_no hasN x l i hx] at h
   have : j = 0 := by omega
   subst this
   unfold endsN
   rw [hx, if_pos rfl]
   rfl
  | false =>
   rw [idx_yes hasN x l i hx] at h
   cases j with
   | zero =>
    rcases idx_bound hasN l (i + 1) with h' | ⟨k, h1, h2, h3⟩
    · rw [h'] at h; omega
    · rw [h3] at h; omega
   | succ j =>
    have := ends_some l (i + 1) j (by rw [h]; congr 1; omega) (by simpa using hj)
    unfold endsN
    rw [hx, if_neg Bool.false_ne_true, this]
    rfl
theorem last_step (a : Int) (x : S50) (r : List S50) : lastN a (x :: r) = lastN (if hasN x = true then x.f1 else a) r := rfl
theorem enters_ends1 : EntersK 82 := entersK_of Try.func82 (by kernel_rfl) (by kernel_rfl)
theorem ends_index (A0 : Option Addr) (c0 : Nat) (l : List S50) (w : World) (hr0 : Kd.C k50 w A0 l.length l) :
  Calls Try.prog 79 #[.slice A0 l.length c0, .func (.func 82) #[] #[]] w fun e w' => e = .returned (.int .i64 (idxN hasN l 0)) ∧ Below w.heap.size w w' :=
 index_calls 82 #[] hasN A0 c0 l w hr0 (fun x W _ => chart_ends_1.calls x.f0 x.f1 x.f2 x.f3 (hasN x) W (ends1_some x)) enters_ends1
set_option maxRecDepth 100000 in
set_option maxHeartbeats 2000000 in
theorem ends_walk (A0 : Option Addr) (c0 : Nat) (l : List S50) (w : World) (hr0 : Kd.C k50 w A0 l.length l) (hc0 : l.length ≤ c0) (r : Int × Int × Bool) (hr : endsN l = r) :
  Calls Try.prog 62 #[.slice A0 l.length c0] w fun e w' => e = .returned (.tuple #[.int .i64 r.1, .int .i64 r.2.1, .bool r.2.2]) ∧ Below w.heap.size w w' := by
 have H := Lib.hid (ends_index A0 c0 l w hr0)
 have hmax := Kd.C_max hr0
 rcases idx_bound hasN l 0 with h | ⟨i, _, hi, h⟩
 ·
  rw [h] at H
  have HRE := Lib.hid (hr.symm.trans (ends_none l 0 h))
  clear h hr hr0 hc0 hmax
  go_enter Try.func62, Try.ntmps62
  go_wp2_with fail
  refine H.out.mono ?_
  rintro e w1 ⟨rfl, hb⟩
  have HB := Lib.hid hb
  clear hb H
  go_wp2
  go_ret3
  rw [HRE.out]
  exact ⟨rfl, HB.out⟩
 ·
  rw [Nat.zero_add] at hi
  rw [h] at H
  have HRE := Lib.hid (hr.symm.trans (ends_some l 0 i (by rw [h]; simp) hi))
  have p0 : (0 : Int) ≤ (i : Int) := by omega
  have p1 : (i : Int) < (l.length : Int) := by omega
  have d0 : decide ((i : Int) < 0) = false := decide_eq_false (by omega)
  have p2 : (i : Int) ≤ (l.length : Int) := by omega
  have p3 : (l.length : Int) ≤ (c0 : Int) := by omega
  have p4 : i ≤ l.length := by omega
  have hci : (c0 = i) = False := eq_false (by omega)
  obtain ⟨ad, rfl, x0, x1, x2, x3⟩ := at_T50 hr0 (i : Int) p0 p1
  rw [rd_atS] at x0 x1 x2 x3
  obtain ⟨x, hx⟩ : ∃ x, x = atS l i := ⟨_, rfl⟩
  rw [← hx] at x0 x1 x2 x3 HRE
  rw [Int.toNat_natCast] at x0 x1 x2 x3
  have HR0 := Lib.hid hr0
  have HM := Lib.hid hmax
  have HI := Lib.hid hi
  clear h hr hr0 hx hmax hi
  replace p0 := eq_true p0
  replace p1 := eq_true p1
  go_enter Try.func62, Try.ntmps62
  go_wp2_with fail
  refine H.out.mono ?_
  rintro e w1 ⟨rfl, hb⟩
  have HB := Lib.hid hb
  replace x0 := (hb.cell (World.block_lt_of_cell? _ _ x0)).trans x0
  replace x1 := (hb.cell (World.block_lt_of_cell? _ _ x1)).trans x1
  replace x2 := (hb.cell (World.block_lt_of_cell? _ _ x2)).trans x2
  replace x3 := (hb.cell (World.block_lt_of_cell? _ _ x3)).trans x3
  clear hb H
  go_wp2_with fail
  refine (chart_span_first.calls x.f0 x.f1 x.f2 x.f3 (fstAt x) (hasN x) _ (first_some x)).mono ?_
  rintro e w2 ⟨rfl, hb⟩
  have HB2 := Lib.hid (HB.out.trans (hb.mono HB.out.size))
  obtain ⟨y, hy⟩ : ∃ y, y = fstAt x := ⟨_, rfl⟩
  obtain ⟨z, hz⟩ : ∃ z, z = hasN x := ⟨_, rfl⟩
  rw [← hy] at HRE ⊢
  rw [← hz]
  clear hb hy hz x0 x1 x2 x3
  go_wp2_with fail
  go_loopw [9, 30] (fun v9 v30 wr => ∃ (b : Int) (t : Nat), t ≤ l.length - i ∧ v9 = .int .i64 b ∧ v30 = .int .i64 (t : Int) ∧ Aside0 (Below w.heap.size w wr) ∧ Aside0 (lastN b (l.drop (i + t)) = lastN y (l.drop i))) (fun _ v30 _ => (l.length - i) - (intOf v30).toNat)
  case atStart => exact ⟨y, 0, Nat.zero_le _, rfl, rfl, ⟨HB2.out⟩, ⟨rfl⟩⟩
  case round =>
   obtain ⟨b, t, ht, rfl, rfl, HB, HT⟩ := hrel
   by_cases hlt : t < l.length - i
   ·
    have hit : i + t < l.length := by omega
    have q0 : (0 : Int) ≤ (t : Int) := by omega
    have q1 : (t : Int) < ((l.length - i : Nat) : Int) := by omega
    have d1 : decide ((t : Int) < ((l.length - i : Nat) : Int)) = true := decide_eq_true q1
    have hwi : wrap64 ((t : Int) + 1) = ((t + 1 : Nat) : Int) := by have := HM.out; unfold wrap64; omega
    obtain ⟨_, e, x0, x1, x2, x3⟩ := at_T50 HR0.out ((i + t : Nat) : Int) (by omega) (by omega)
    cases e
    rw [rd_atS] at x0 x1 x2 x3
    obtain ⟨x, hx⟩ : ∃ x, x = atS l (i + t) := ⟨_, rfl⟩
    have ea : (ad.add (i * 4)).add (t * 4) = ad.add ((i + t) * 4) := by rw [add_add]; congr 1; omega
    rw [← hx] at x0 x1 x2 x3
    rw [Int.toNat_natCast, ← ea] at x0 x1 x2 x3
    replace x0 := (HB.out.cell (World.block_lt_of_cell? _ _ x0)).trans x0
    replace x1 := (HB.out.cell (World.block_lt_of_cell? _ _ x1)).trans x1
    replace x2 := (HB.out.cell (World.block_lt_of_cell? _ _ x2)).trans x2
    replace x3 := (HB.out.cell (World.block_lt_of_cell? _ _ x3)).trans x3
    have hst : lastN b (l.drop (i + t)) = lastN (if hasN x = true then x.f1 else b) (l.drop (i + (t + 1))) := by
     rw [List.drop_eq_getElem_cons hit, last_step, hx, atS_get l (i + t) hit]; rfl
    have HST := Lib.hid (hst.symm.trans HT.out)
    have HLT := Lib.hid hlt
    clear hx ea hst hlt hit
    replace q0 := eq_true q0
    replace q1 := eq_true q1
    have hz2 := (zero_of_info (P := Try.prog) (t := 50) (v := .agg #[.int .i64 0, .int .i64 0, .int .i64 0, .int .i64 0]) (n := 4) (by kernel_rfl)).1
    go_wp2_with fail
    obtain ⟨wx, hwx⟩ : ∃ wx, wx = wr.alloc (.cells #[.int .i64 x.f0, .int .i64 x.f1, .int .i64 x.f2, .int .i64 x.f3] 50) := ⟨_, rfl⟩
    have hbx : Below wr.heap.size wr wx := by rw [hwx]; exact (Below.refl _ _).alloc (Nat.le_refl _) _
    have c1 : wx.cell? ⟨wr.heap.size, 1, none⟩ = some (.int .i64 x.f1) := by rw [hwx]; simp [go_sem]
    rw [← hwx]
    clear hwx x0 x1 x2 x3
    refine (chart_ends_1.calls x.f0 x.f1 x.f2 x.f3 (hasN x) _ (ends1_some x)).mono ?_
    rintro e w4 ⟨rfl, hb⟩
    have HB3 := Lib.hid (HB.out.trans ((hbx.trans (hb.mono hbx.size)).mono HB.out.size))
    replace c1 := (hb.cell (World.block_lt_of_cell? _ _ c1)).trans c1
    clear hb hbx
    cases hq : hasN x with
    | true =>
     rw [hq, if_pos rfl] at HST
     clear hq
     go_wp2
     go_roundw
     case rel => exact ⟨_, t + 1, HLT.out, rfl, by rw [hwi], ⟨HB3.out⟩, ⟨HST.out⟩⟩
     case measure => rw [hwi]; exact less_step (by decide) HLT.out
    | false =>
     rw [hq, if_neg Bool.false_ne_true] at HST
     clear hq
     go_wp2
     go_roundw
     case rel => exact ⟨_, t + 1, HLT.out, rfl, by rw [hwi], ⟨HB3.out⟩, ⟨HST.out⟩⟩
     case measure => rw [hwi]; exact less_step (by decide) HLT.out
   ·
    have d1 : decide ((t : Int) < ((l.length - i : Nat) : Int)) = false := decide_eq_false (by omega)
    have hres : b = lastN y (l.drop i) := by
     rw [← HT.out, List.drop_eq_nil_of_le (by omega)]; rfl
    rw [← hres] at HRE
    have d2 : decide (t < l.length - i) = false := decide_eq_false hlt
    clear hres hlt
    go_wp2_with fail
    go_ways
    go_ret3
    rw [HRE.out]
    exact ⟨rfl, HB.out⟩
def chart_ends.f (l0 : List S50) : Option (Int × Int × Bool) := some (endsN l0)
theorem chart_ends.calls (A0 : Option Addr) (c0 : Nat) (l0 : List S50) (r1 : Int) (r2 : Int) (r3 : Bool) (w : World) (hr0 : Kd.C k50 w A0 l0.length l0) (hc0 : l0.length ≤ c0) (h : chart_ends.f l0 = some (r1, r2, r3)) :
  Calls Try.prog 62 #[.slice A0 l0.length c0] w fun e w' => e = .returned (.tuple #[.int .i64 r1, .int .i64 r2, .bool r3]) ∧ Below w.heap.size w w' :=
 ends_walk A0 c0 l0 w hr0 hc0 (r1, r2, r3) (Option.some.inj h)
end Go.Proofs.Ytejdflndgnpkcaa.P
end
section
namespace Go.Proofs.Ytejdflndgnpkcaa.P
open Go.RowKit Go.Proofs.YtejdflndgnpkcaaW.PrintWords Go.Proofs.YtejdflndgnpkcaaW.PrintLast Go.Proofs.YtejdflndgnpkcaaW.PrintMore
theorem right_iff (x : S50) : rightN x = true ↔ (0 ≤ x.f0 ∧ x.f0 ≤ x.f1 ∧ x.f1 ≤ 1114111 ∧ (x.f3 = 0 ∨ x.f3 = 1) ∧ 0 ≤ x.f2 ∧ x.f2 ≤ 65535 ∧ x.f2 + x.f3 * (x.f1 - x.f0) ≤ 65535) := by
 unfold rightN
 simp only [Bool.and_eq_true, Bool.or_eq_true, decide_eq_true_eq, beq_iff_eq]
theorem gly_in {x : S50} (hx : rightN x = true) {c : Int} (h0 : x.f0 ≤ c) (h1 : c ≤ x.f1 + 1) : glyAt x c = x.f2 + x.f3 * (c - x.f0) := by
 obtain ⟨a0, a1, a2, a3, a4, a5, a6⟩ := (right_iff x).1 hx
 unfold glyAt
 have e1 : wrap64 (c - x.f0) = c - x.f0 := by unfold wrap64; omega
 rw [e1]
 rcases a3 with h | h
 · rw [h, Int.zero_mul]; unfold wrap64; omega
 · rw [h, Int.one_mul]; unfold wrap64; omega
theorem gly_bd {x : S50} (hx : rightN x = true) {c : Int} (h0 : x.f0 ≤ c) (h1 : c ≤ x.f1) : 0 ≤ x.f2 + x.f3 * (c - x.f0) ∧ x.f2 + x.f3 * (c - x.f0) ≤ 65535 := by
 obtain ⟨a0, a1, a2, a3, a4, a5, a6⟩ := (right_iff x).1 hx
 rcases a3 with h | h
 · rw [h, Int.zero_mul]; omega
 · rw [h, Int.one_mul] at a6 ⊢; omega
theorem fst_val {x : S50} (hx : rightN x = true) : fstAt x = if x.f2 = 0 then x.f0 + x.f3 else x.f0 := by
 obtain ⟨a0, a1, a2, a3, a4, a5, a6⟩ := (right_iff x).1 hx
 unfold fstAt
 by_cases h : x.f2 = 0
 · rw [if_pos h, if_pos h]; unfold wrap64; omega
 · rw [if_neg h, if_neg h]
theorem has_iff {x : S50} (hx : rightN x = true) : hasN x = true ↔ (0 < x.f2 ∨ x.f3 = 1 ∧ x.f0 < x.f1) := by
 obtain ⟨a0, a1, a2, a3, a4, a5, a6⟩ := (right_iff x).1 hx
 unfold hasN
 rw [fst_val hx]
 simp only [Bool.and_eq_true, decide_eq_true_eq]
 by_cases h : x.f2 = 0
 ·
  rw [if_pos h, gly_in hx (by omega) (by omega)]
  rcases a3 with h3 | h3
  · rw [h3, Int.zero_mul]; omega
  · rw [h3, Int.one_mul]; omega
 ·
  rw [if_neg h, gly_in hx (by omega) (by omega)]
  rw [show x.f0 - x.f0 = 0 by omega, Int.mul_zero]
  omega
theorem fst_in {x : S50} (hx : rightN x = true) (hh : hasN x = true) : 0 ≤ fstAt x ∧ x.f0 ≤ fstAt x ∧ fstAt x ≤ x.f1 := by
 obtain ⟨a0, a1, a2, a3, a4, a5, a6⟩ := (right_iff x).1 hx
 have h2 := (has_iff hx).1 hh
 rw [fst_val hx]
 by_cases h : x.f2 = 0
 · rw [if_pos h]; omega
 · rw [if_neg h]; omega
theorem ord_cons {x : S50} {l : List S50} (h : ordN (x :: l) = true) : ordN l = true := by
 cases l with
 | nil => rfl
 | cons y r => rw [ord_step, Bool.and_eq_true] at h; exact h.2
theorem ord_head : ∀ {x : S50} {l : List S50}, (∀ y ∈ l, rightN y = true) → ordN (x :: l) = true → ∀ y ∈ l, x.f1 < y.f0
 | x, [], _, _, y, hy => by simp at hy
 | x, z :: r, hr, h, y, hy => by
  rw [ord_step, Bool.and_eq_true] at h
  have h1 := of_decide_eq_true h.1
  rcases List.mem_cons.1 hy with e | hm
  · rw [e]; exact h1
  ·
   have h2 := ord_head (fun q hq => hr q (List.mem_cons_of_mem _ hq)) h.2 y hm
   obtain ⟨_, a1, _⟩ := (right_iff z).1 (hr z List.mem_cons_self)
   omega
theorem isL_all {l : List S50} (h : isL l = true) : l.length ≤ 65536 ∧ (∀ x ∈ l, rightN x = true) ∧ ordN l = true := by
 unfold isL at h
 simp only [Bool.and_eq_true, decide_eq_true_eq, List.all_eq_true] at h
 exact ⟨h.1, h.2.1, h.2.2⟩
theorem isL_mk {l : List S50} (h1 : l.length ≤ 65536) (h2 : ∀ x ∈ l, rightN x = true) (h3 : ordN l = true) : isL l = true := by
 unfold isL
 simp only [Bool.and_eq_true, decide_eq_true_eq, List.all_eq_true]
 exact ⟨h1, h2, h3⟩
theorem ord_at_lt {l : List S50} (hr : ∀ y ∈ l, rightN y = true) (ho : ordN l = true) : ∀ {i j : Nat} (hij : i < j) (hj : j < l.length), (l[i]'(by omega)).f1 < l[j].f0 := by
 induction l with
 | nil => intro i j _ hj; exact absurd hj (by simp)
 | cons x r ih =>
  intro i j hij hj
  obtain ⟨j, rfl⟩ : ∃ m, j = m + 1 := ⟨j - 1, by omega⟩
  have hj' : j < r.length := by simpa using hj
  cases i with
  | zero => exact ord_head (fun q hq => hr q (List.mem_cons_of_mem _ hq)) ho _ (List.getElem_mem hj')
  | succ i => exact ih (fun q hq => hr q (List.mem_cons_of_mem _ hq)) (ord_cons ho) (by omega) hj'
theorem last_in : ∀ (l : List S50) (a : Int), (∀ y ∈ l, rightN y = true) → (∀ y ∈ l, a ≤ y.f1) → ordN l = true → a ≤ lastN a l ∧ (lastN a l = a ∨ ∃ y ∈ l, hasN y = true ∧ lastN a l = y.f1)
 | [], a, _, _, _ => ⟨Int.le_refl _, .inl rfl⟩
 | x :: r, a, hr, ha, ho => by
  rw [last_step]
  have hr' := fun q hq => hr q (List.mem_cons_of_mem _ hq)
  have hx := ha x List.mem_cons_self
  obtain ⟨_, x1, _⟩ := (right_iff x).1 (hr x List.mem_cons_self)
  have hh := ord_head hr' ho
  have hc : ∀ y ∈ r, x.f1 ≤ y.f1 := fun y hy => by
   have := hh y hy
   obtain ⟨_, a1, _⟩ := (right_iff y).1 (hr' y hy)
   omega
  cases hq : hasN x with
  | true =>
   rw [if_pos rfl]
   obtain ⟨h1, h2⟩ := last_in r x.f1 hr' hc (ord_cons ho)
   refine ⟨by omega, ?_⟩
   rcases h2 with h2 | ⟨y, hy, h3, h4⟩
   · exact .inr ⟨x, List.mem_cons_self, hq, h2⟩
   · exact .inr ⟨y, List.mem_cons_of_mem _ hy, h3, h4⟩
  | false =>
   rw [if_neg Bool.false_ne_true]
   obtain ⟨h1, h2⟩ := last_in r a hr' (fun y hy => ha y (List.mem_cons_of_mem _ hy)) (ord_cons ho)
   refine ⟨h1, ?_⟩
   rcases h2 with h2 | ⟨y, hy, h3, h4⟩
   · exact .inl h2
   · exact .inr ⟨y, List.mem_cons_of_mem _ hy, h3, h4⟩
theorem ends_in : ∀ (l : List S50), (∀ y ∈ l, rightN y = true) → ordN l = true → (endsN l = (0, 0, false) ∧ ∀ y ∈ l, hasN y = false) ∨ ∃ a b : Int, endsN l = (a, b, true) ∧ 0 ≤ a ∧ a ≤ b ∧ b ≤ 1114111
 | [], _, _ => .inl ⟨rfl, fun y hy => by simp at hy⟩
 | x :: r, hr, ho => by
  have hr' := fun q hq => hr q (List.mem_cons_of_mem _ hq)
  have hx := hr x List.mem_cons_self
  have hh := ord_head hr' ho
  unfold endsN
  cases hq : hasN x with
  | true =>
   rw [if_pos rfl]
   obtain ⟨f0, f1, f2⟩ := fst_in hx hq
   obtain ⟨_, x1, x2, _⟩ := (right_iff x).1 hx
   have hc : ∀ y ∈ x :: r, fstAt x ≤ y.f1 := fun y hy => by
    rcases List.mem_cons.1 hy with e | hm
    · rw [e]; omega
    ·
     have := hh y hm
     obtain ⟨_, a1, _⟩ := (right_iff y).1 (hr' y hm)
     omega
   obtain ⟨h1, h2⟩ := last_in (x :: r) (fstAt x) hr hc ho
   refine .inr ⟨_, _, rfl, f0, h1, ?_⟩
   rcases h2 with h2 | ⟨y, hy, h3, h4⟩
   · omega
   ·
    rw [h4]
    obtain ⟨_, _, y2, _⟩ := (right_iff y).1 (hr y hy)
    exact y2
  | false =>
   rw [if_neg Bool.false_ne_true]
   rcases ends_in r hr' (ord_cons ho) with ⟨h1, h2⟩ | h
   ·
    refine .inl ⟨h1, fun y hy => ?_⟩
    rcases List.mem_cons.1 hy with e | hm
    · rw [e]; exact hq
    · exact h2 y hm
   · exact .inr h
def linN : List S50 → Int → Int
 | [], _ => 0
 | x :: r, c => if x.f0 ≤ c ∧ c ≤ x.f1 then x.f2 + x.f3 * (c - x.f0) else linN r c
theorem lin_bd : ∀ (l : List S50) (c : Int), (∀ y ∈ l, rightN y = true) → 0 ≤ linN l c ∧ linN l c ≤ 65535
 | [], c, _ => ⟨Int.le_refl _, by unfold linN; decide⟩
 | x :: r, c, hr => by
  unfold linN
  by_cases h : x.f0 ≤ c ∧ c ≤ x.f1
  · rw [if_pos h]; exact gly_bd (hr x List.mem_cons_self) h.1 h.2
  · rw [if_neg h]; exact lin_bd r c (fun q hq => hr q (List.mem_cons_of_mem _ hq))
theorem lin_none : ∀ (l : List S50) (c : Int), (∀ y ∈ l, ¬ (y.f0 ≤ c ∧ c ≤ y.f1)) → linN l c = 0
 | [], c, _ => rfl
 | x :: r, c, h => by
  unfold linN
  rw [if_neg (h x List.mem_cons_self)]
  exact lin_none r c (fun q hq => h q (List.mem_cons_of_mem _ hq))
theorem lin_skip : ∀ (a b : List S50) (c : Int), (∀ y ∈ a, ¬ (y.f0 ≤ c ∧ c ≤ y.f1)) → linN (a ++ b) c = linN b c
 | [], b, c, _ => rfl
 | x :: r, b, c, h => by
  rw [List.cons_append]
  conv => lhs; unfold linN
  rw [if_neg (h x List.mem_cons_self)]
  exact lin_skip r b c (fun q hq => h q (List.mem_cons_of_mem _ hq))
theorem place_spec {l : List S50} (hr : ∀ y ∈ l, rightN y = true) (ho : ordN l = true) (c : Int) : ∀ (d i j : Nat), j - i ≤ d → i ≤ j → j ≤ l.length → (∀ k (hk : k < l.length), k < i → l[k].f1 < c) → (∀ k (hk : k < l.length), j ≤ k → ¬ l[k].f1 < c) →
  srch l c d i j ≤ l.length ∧ (∀ k (hk : k < l.length), k < srch l c d i j → l[k].f1 < c) ∧ (∀ k (hk : k < l.length), srch l c d i j ≤ k → ¬ l[k].f1 < c)
 | 0, i, j, hd, hij, hj, h1, h2 => by
  have : i = j := by omega
  subst this
  exact ⟨hj, h1, h2⟩
 | d + 1, i, j, hd, hij, hj, h1, h2 => by
  by_cases hlt : i < j
  ·
   rw [srch_step, if_pos hlt]
   obtain ⟨h, hh⟩ : ∃ h, h = (i + j) / 2 := ⟨_, rfl⟩
   rw [← hh]
   have hhl : h < l.length := by omega
   rw [atS_get l h hhl]
   have hmono : ∀ k (hk : k < l.length), k < h → l[k].f1 < l[h].f1 := fun k hk hkh => by
    have := ord_at_lt hr ho hkh hhl
    obtain ⟨_, a1, _⟩ := (right_iff l[h]).1 (hr _ (List.getElem_mem hhl))
    omega
   have hmono2 : ∀ k (hk : k < l.length), h < k → l[h].f1 < l[k].f1 := fun k hk hkh => by
    have := ord_at_lt hr ho hkh hk
    obtain ⟨_, a1, _⟩ := (right_iff l[k]).1 (hr _ (List.getElem_mem hk))
    omega
   by_cases hc : l[h].f1 < c
   ·
    rw [if_pos hc]
    refine place_spec hr ho c d (h + 1) j (by omega) (by omega) hj (fun k hk hkh => ?_) h2
    rcases Nat.lt_or_ge k h with h3 | h3
    · have := hmono k hk h3; omega
    ·
     have : k = h := by omega
     subst this; exact hc
   ·
    rw [if_neg hc]
    refine place_spec hr ho c d i h (by omega) (by omega) (by omega) h1 (fun k hk hkh => ?_)
    rcases Nat.lt_or_ge h k with h3 | h3
    · have := hmono2 k hk h3; omega
    ·
     have : k = h := by omega
     subst this; exact hc
  ·
   have : i = j := by omega
   subst this
   rw [srch_done l c (d + 1) i i (by omega)]
   exact ⟨hj, h1, h2⟩
theorem look_lin {l : List S50} (hr : ∀ y ∈ l, rightN y = true) (ho : ordN l = true) (c : Int) : lookN l c = linN l c := by
 obtain ⟨p0, p1, p2⟩ := place_spec hr ho c l.length 0 l.length (by omega) (by omega) (Nat.le_refl _) (fun k _ h => by omega) (fun k hk h => by omega)
 obtain ⟨p, hp⟩ : ∃ p, p = placeN l c := ⟨_, rfl⟩
 have hp' : srch l c l.length 0 l.length = p := hp.symm
 rw [hp'] at p0 p1 p2
 unfold lookN
 rw [← hp]
 have hsplit : l = l.take p ++ l.drop p := (List.take_append_drop p l).symm
 have hpre : ∀ y ∈ l.take p, ¬ (y.f0 ≤ c ∧ c ≤ y.f1) := fun y hy => by
  obtain ⟨k, hk, rfl⟩ := List.getElem_of_mem hy
  have hkl : k < l.length := by rw [List.length_take] at hk; omega
  have hkp : k < p := by rw [List.length_take] at hk; omega
  rw [List.getElem_take]
  have := p1 k hkl hkp
  omega
 have hl : linN l c = linN (l.drop p) c := by conv => lhs; rw [hsplit]; rw [lin_skip _ _ c hpre]
 rw [hl]
 by_cases hpl : p < l.length
 ·
  rw [List.drop_eq_getElem_cons hpl]
  unfold isAt
  rw [decide_eq_true hpl, Bool.true_and, atS_get l p hpl]
  have h2 := p2 p hpl (Nat.le_refl _)
  have hx := hr _ (List.getElem_mem hpl)
  unfold cmpN linN
  rw [if_neg h2]
  by_cases h0 : l[p].f0 > c
  ·
   rw [if_pos h0, if_neg (by decide), if_neg (by omega)]
   symm
   refine lin_none _ c (fun y hy => ?_)
   obtain ⟨k, hk, rfl⟩ := List.getElem_of_mem hy
   have hk' : p + 1 + k < l.length := by rw [List.length_drop] at hk; omega
   rw [List.getElem_drop]
   have := ord_at_lt hr ho (show p < p + 1 + k by omega) hk'
   obtain ⟨_, a1, _⟩ := (right_iff l[p]).1 hx
   omega
  ·
   rw [if_neg h0, if_pos (by decide), if_pos (by omega)]
   exact gly_in hx (by omega) (by omega)
 ·
  unfold isAt
  rw [decide_eq_false hpl, Bool.false_and, if_neg Bool.false_ne_true, List.drop_eq_nil_of_le (by omega)]
  rfl
theorem look_bd {l : List S50} (h : isL l = true) (c : Int) : 0 ≤ lookN l c ∧ lookN l c ≤ 65535 := by
 obtain ⟨_, hr, ho⟩ := isL_all h
 rw [look_lin hr ho c]
 exact lin_bd l c hr
end Go.Proofs.Ytejdflndgnpkcaa.P
end
