/- A part of the proof of the law SegmentDoes: the words, contracts and plain facts that it needs, no more. Each says its own condition. -/
import Derived.Test.YtgifenlfklbdgaaZSegmentDoeso
import Derived.Test.YtgifenlfklbdgaaZSegmentDoesm
import Derived.Deep.WholeRow
import Derived.Deep.RegionHeld3
import Derived.WalkMore
import Derived.Lib.Hide
import Derived.Test.YtgifenlfklbdgaaZSegmentDoesg
section
namespace Go.Proofs.Ytgifenlfklbdgaa.P
open Go.RowKit Go.Proofs.YtgifenlfklbdgaaW.PrintWords Go.Proofs.YtgifenlfklbdgaaW.PrintLast Go.Proofs.YtgifenlfklbdgaaW.PrintMore
set_option linter.unusedSimpArgs false
set_option linter.unusedVariables false
def rightN (x : S42) : Bool := decide (0 ≤ x.f0) && (decide (x.f0 ≤ x.f1) && (decide (x.f1 ≤ 1114111) && ((x.f3 == 0 || x.f3 == 1) && (decide (0 ≤ x.f2) && (decide (x.f2 ≤ 65535) && decide (x.f2 + x.f3 * (x.f1 - x.f0) ≤ 65535))))))
theorem glyph_bound {a b c : Int} (h0 : 0 ≤ a) (h1 : a ≤ b) (h2 : b ≤ 1114111) (h3 : 0 ≤ c) (h4 : c ≤ 65535) (s : Int) (hs : s = 0 ∨ s = 1) : wrap64 (c + wrap64 (s * wrap64 (b - a))) = c + s * (b - a) := by
  have e1 : wrap64 (b - a) = b - a := by unfold wrap64; omega
  rw [e1]
  rcases hs with rfl | rfl
  · rw [Int.zero_mul]
    unfold wrap64; omega
  · rw [Int.one_mul]
    unfold wrap64; omega
theorem right_some (x : S42) : chart_span_right.f x.f0 x.f1 x.f2 x.f3 = some (rightN x) := by
  obtain ⟨a, b, c, s⟩ := x
  unfold chart_span_right.f rightN
  simp only
  by_cases h1 : 0 ≤ a
  · rw [if_pos h1, decide_eq_true h1, Bool.true_and]
    by_cases h2 : a ≤ b
    · rw [if_pos h2, decide_eq_true h2, Bool.true_and]
      by_cases h3 : b ≤ 1114111
      · rw [if_pos h3, decide_eq_true h3, Bool.true_and]
        have hg : ∀ (hs : s = 0 ∨ s = 1), (if c ≥ 0 then (if c ≤ 65535 then ((chart_span_glyph.f a b c s b).bind fun t => (some (decide (t ≤ 65535)))) else (some false)) else (some false)) = some (decide (0 ≤ c) && (decide (c ≤ 65535) && decide (c + s * (b - a) ≤ 65535))) := fun hs => by
          by_cases h4 : 0 ≤ c
          · rw [if_pos h4, decide_eq_true h4, Bool.true_and]
            by_cases h5 : c ≤ 65535
            · rw [if_pos h5, decide_eq_true h5, Bool.true_and]
              unfold chart_span_glyph.f
              rw [Option.bind_some, glyph_bound h1 h2 h3 h4 h5 s hs]
            · rw [if_neg h5, decide_eq_false h5, Bool.false_and]
          · rw [if_neg h4, decide_eq_false h4, Bool.false_and]
        by_cases h6 : s = 0
        · rw [if_pos h6, hg (.inl h6), show (s == 0) = true from beq_iff_eq.2 h6, Bool.true_or, Bool.true_and]
        · rw [if_neg h6, show (s == 0) = false from beq_eq_false_iff_ne.2 h6, Bool.false_or]
          by_cases h7 : s = 1
          · rw [if_pos h7, hg (.inr h7), show (s == 1) = true from beq_iff_eq.2 h7, Bool.true_and]
          · rw [if_neg h7, show (s == 1) = false from beq_eq_false_iff_ne.2 h7, Bool.false_and]
      · rw [if_neg h3, decide_eq_false h3, Bool.false_and]
    · rw [if_neg h2, decide_eq_false h2, Bool.false_and]
  · rw [if_neg h1, decide_eq_false h1, Bool.false_and]
def ordN : List S42 → Bool
  | [] => true
  | [_] => true
  | x :: y :: r => decide (x.f1 < y.f0) && ordN (y :: r)
def isL (l : List S42) : Bool := decide (l.length ≤ 65536) && (l.all rightN && ordN l)
set_option maxHeartbeats 2000000 in
theorem all1_calls (q : Addr) (x : S42) (w : World) (hq : w.cell? q = some (.func (.func 74) #[] #[])) :
    Calls Try.prog 116 #[.agg #[.int .i64 x.f0, .int .i64 x.f1, .int .i64 x.f2, .int .i64 x.f3], .pointer (some q)] w fun e w' => e = .returned (.bool (!rightN x)) ∧ Below w.heap.size w w' := by
  have HB := Aside0.mk (Below.refl w.heap.size w)
  have hq1 := cell_al (.cells #[.int .i64 x.f0, .int .i64 x.f1, .int .i64 x.f2, .int .i64 x.f3] 42) hq
  go_enter Try.func116, Try.ntmps116
  go_wp2_with fail
  refine (chart_span_right.calls x.f0 x.f1 x.f2 x.f3 _ _ (right_some x)).mono ?_
  rintro e w8 ⟨rfl, hb⟩
  have HB2 := Lib.hid (((Below.refl w.heap.size w).alloc (Nat.le_refl _) _).trans (hb.mono (by simp)))
  clear hb
  go_wp2
  go_ret
  exact ⟨rfl, HB2.out⟩
def idxN (p : S42 → Bool) : List S42 → Nat → Int
  | [], _ => -1
  | x :: l, i => if p x = true then (i : Int) else idxN p l (i + 1)
theorem idx_yes (p : S42 → Bool) (x : S42) (l : List S42) (i : Nat) (h : p x = false) : idxN p (x :: l) i = idxN p l (i + 1) := by
  conv => lhs; unfold idxN
  rw [if_neg (by rw [h]; exact Bool.false_ne_true)]
theorem idx_no (p : S42 → Bool) (x : S42) (l : List S42) (i : Nat) (h : p x = true) : idxN p (x :: l) i = (i : Int) := by
  conv => lhs; unfold idxN
  rw [if_pos h]
theorem idx_any (p : S42 → Bool) : ∀ (l : List S42) (i : Nat), decide (0 ≤ idxN p l i) = l.any p
  | [], i => rfl
  | x :: l, i => by
    rw [List.any_cons]
    cases h : p x with
    | true => rw [idx_no p x l i h]; simp
    | false => rw [idx_yes p x l i h, idx_any p l (i + 1)]; rfl
def EntersK (K : Nat) : Prop := ∀ (xs : Array Value) (W : World), Sem.run Try.prog (callFunc K xs) W = .ok (.enter K xs) W
theorem entersK_of {K : Nat} {F : Func} (hf : Try.prog.funcs[K]? = some F) (hn : (F.name == "runtime.NumGoroutine") = false) (hb : F.body.isNone = false) : EntersK K := fun xs W => by
  have h1 : ¬ F.name = "runtime.NumGoroutine" := beq_eq_false_iff_ne.1 hn
  have h2 : ¬ F.body = none := fun e => by rw [e] at hb; exact absurd hb (by decide)
  simp [callFunc, go_sem, hf]
  rw [if_neg h1, if_neg h2]
theorem enters_all1 : EntersK 116 := entersK_of Try.func116 (by kernel_rfl) (by kernel_rfl)
def Tests (K : Nat) (fr : Array Value) (p : S42 → Bool) (w0 : World) : Prop := ∀ (x : S42) (W : World), Below w0.heap.size w0 W → Calls Try.prog K (#[.agg #[.int .i64 x.f0, .int .i64 x.f1, .int .i64 x.f2, .int .i64 x.f3]] ++ fr) W fun e w' => e = .returned (.bool (p x)) ∧ Below W.heap.size W w'
set_option maxRecDepth 100000 in
set_option maxHeartbeats 2000000 in
theorem index_calls (K : Nat) (fr : Array Value) (p : S42 → Bool) (A0 : Option Addr) (c0 : Nat) (l : List S42) (w : World) (hr0 : Kd.C k42 w A0 l.length l) (hp : Tests K fr p w) (he : EntersK K) :
    Calls Try.prog 120 #[.slice A0 l.length c0, .func (.func K) #[] fr] w fun e w' => e = .returned (.int .i64 (idxN p l 0)) ∧ Below w.heap.size w w' := by
  have hl := Kd.C_max hr0
  have HR0 := Lib.hid hr0
  have HL := Lib.hid hl
  have HP := Lib.hid hp
  unfold EntersK at he
  clear hr0 hl hp
  go_enter Try.func120, Try.ntmps120
  go_wp2_with fail
  go_loopw [8] (fun v8 wr => ∃ (i : Nat), i ≤ l.length ∧ v8 = .int .i64 (i : Int) ∧ Aside0 (Below w.heap.size w wr) ∧ Aside0 (idxN p (l.drop i) i = idxN p l 0)) (fun v8 _ => l.length - (intOf v8).toNat)
  case atStart => exact ⟨0, by omega, rfl, ⟨Below.refl _ _⟩, ⟨rfl⟩⟩
  case round =>
    obtain ⟨i, hi, rfl, HB, HI⟩ := hrel
    by_cases hlt : i < l.length
    · have q0 : (0 : Int) ≤ (i : Int) := by omega
      have q1 : (i : Int) < (l.length : Int) := by omega
      have d1 : decide ((i : Int) < (l.length : Int)) = true := decide_eq_true q1
      have hwi : wrap64 ((i : Int) + 1) = ((i + 1 : Nat) : Int) := by have := HL.out; unfold wrap64; omega
      obtain ⟨ad, rfl, x0, x1, x2, x3⟩ := at_T42 HR0.out (i : Int) q0 q1
      obtain ⟨x, hx⟩ : ∃ x, x = rd_T42 l (i : Int) := ⟨_, rfl⟩
      rw [← hx] at x0 x1 x2 x3
      rw [Int.toNat_natCast] at x0 x1 x2 x3
      replace x0 := (HB.out.cell (World.block_lt_of_cell? _ _ x0)).trans x0
      replace x1 := (HB.out.cell (World.block_lt_of_cell? _ _ x1)).trans x1
      replace x2 := (HB.out.cell (World.block_lt_of_cell? _ _ x2)).trans x2
      replace x3 := (HB.out.cell (World.block_lt_of_cell? _ _ x3)).trans x3
      have hdr : l.drop i = x :: l.drop (i + 1) := by rw [List.drop_eq_getElem_cons hlt, hx]; unfold rd_T42; simp [List.getD_eq_getElem?_getD, List.getElem?_eq_getElem hlt]
      have HDR := Lib.hid hdr
      clear hdr hx
      replace q0 := eq_true q0
      replace q1 := eq_true q1
      go_wp2_with fail
      refine (HP.out x _ HB.out).mono ?_
      rintro e w1 ⟨rfl, hb⟩
      have HB2 := Lib.hid (HB.out.trans (hb.mono HB.out.size))
      clear hb
      cases hq : p x with
      | false =>
        have HN := Lib.hid (show idxN p (l.drop (i + 1)) (i + 1) = idxN p l 0 by
          have := HI.out
          rw [HDR.out, idx_yes p x _ i hq] at this
          exact this)
        clear hq
        go_wp2
        go_roundw
        case rel => exact ⟨i + 1, hlt, by rw [hwi], ⟨HB2.out⟩, ⟨HN.out⟩⟩
        case measure => rw [hwi]; exact less_step (by decide) hlt
      | true =>
        have hres : idxN p l 0 = (i : Int) := by
          rw [← HI.out, HDR.out, idx_no p x _ i hq]
        have HRE := Lib.hid hres
        clear hq hres
        go_wp2
        go_ret
        rw [HRE.out]
        exact ⟨rfl, HB2.out⟩
    · have hie : i = l.length := by omega
      have d1 : decide ((i : Int) < (l.length : Int)) = false := decide_eq_false (by omega)
      have hres : idxN p l 0 = -1 := by rw [← HI.out, hie, List.drop_length]; rfl
      have HRE := Lib.hid hres
      clear hie hres
      go_wp2
      go_ret
      rw [HRE.out]
      exact ⟨rfl, HB.out⟩
set_option maxHeartbeats 1000000 in
theorem contains_calls (K : Nat) (fr : Array Value) (p : S42 → Bool) (A0 : Option Addr) (c0 : Nat) (l : List S42) (w : World) (hr0 : Kd.C k42 w A0 l.length l) (hp : Tests K fr p w) (he : EntersK K) :
    Calls Try.prog 115 #[.slice A0 l.length c0, .func (.func K) #[] fr] w fun e w' => e = .returned (.bool (l.any p)) ∧ Below w.heap.size w w' := by
  have H := Lib.hid (index_calls K fr p A0 c0 l w hr0 hp he)
  have HI := Lib.hid (idx_any p l 0)
  clear hr0 hp
  go_enter Try.func115, Try.ntmps115
  go_wp2_with fail
  refine H.out.mono ?_
  rintro e w1 ⟨rfl, hb⟩
  obtain ⟨j, hj⟩ : ∃ j, j = idxN p l 0 := ⟨_, rfl⟩
  have HI2 := Lib.hid (show l.any p = decide (0 ≤ j) by rw [hj]; exact HI.out.symm)
  rw [← hj]
  have HBB := Lib.hid hb
  clear H HI hj hb
  go_wp2
  go_ret
  rw [HI2.out]
  exact ⟨rfl, HBB.out⟩
set_option maxHeartbeats 1000000 in
theorem all_calls (A0 : Option Addr) (c0 : Nat) (l : List S42) (w : World) (hr0 : Kd.C k42 w A0 l.length l) :
    Calls Try.prog 73 #[.slice A0 l.length c0, .func (.func 74) #[] #[]] w fun e w' => e = .returned (.bool (l.all rightN)) ∧ Below w.heap.size w w' := by
  have hb0 := (Below.refl w.heap.size w).alloc (Nat.le_refl _) (.cells #[.func (.func 74) #[] #[]] 94)
  have hc : (w.alloc (.cells #[.func (.func 74) #[] #[]] 94)).cell? ⟨w.heap.size, 0, none⟩ = some (.func (.func 74) #[] #[]) := by simp [go_sem]
  have H := Lib.hid (contains_calls 116 #[.pointer (some ⟨w.heap.size, 0, none⟩)] (fun x => !rightN x) A0 c0 l (w.alloc (.cells #[.func (.func 74) #[] #[]] 94)) (Kd.C_alloc hr0 _)
    (fun x W hW => all1_calls ⟨w.heap.size, 0, none⟩ x W ((hW.cell (World.block_lt_of_cell? _ _ hc)).trans hc)) enters_all1)
  have HB0 := Lib.hid hb0
  have HA := Lib.hid (show (!(l.any fun x => !rightN x)) = l.all rightN by rw [List.not_any_eq_all_not]; simp)
  clear hr0 hb0 hc
  go_enter Try.func73, Try.ntmps73
  go_wp2_with fail
  refine H.out.mono ?_
  rintro e w1 ⟨rfl, hb⟩
  obtain ⟨j, hj⟩ : ∃ j, j = l.any (fun x => !rightN x) := ⟨_, rfl⟩
  have HBB := Lib.hid (HB0.out.trans (hb.mono HB0.out.size))
  rw [← hj] at HA ⊢
  clear H hj hb
  go_wp2
  go_ret
  rw [← HA.out]
  exact ⟨rfl, HBB.out⟩
theorem ord_step (x y : S42) (r : List S42) : ordN (x :: y :: r) = (decide (x.f1 < y.f0) && ordN (y :: r)) := by
  conv => lhs; unfold ordN
theorem ord_at (l : List S42) (i : Nat) (h : i + 1 < l.length) : ordN (l.drop i) = (decide (l[i].f1 < l[i + 1].f0) && ordN (l.drop (i + 1))) := by
  rw [List.drop_eq_getElem_cons (by omega), List.drop_eq_getElem_cons h, ord_step]
theorem ord_last (l : List S42) (i : Nat) (h : i + 1 = l.length) : ordN (l.drop i) = true := by
  rw [List.drop_eq_getElem_cons (by omega), List.drop_eq_nil_of_le (by omega)]
  rfl
set_option maxRecDepth 100000 in
set_option maxHeartbeats 2000000 in
theorem chart_is_many (A0 : Option Addr) (c0 n : Nat) (w : World) (h : 65536 < n) (h2 : n ≤ 9223372036854775807) :
    Calls Try.prog 36 #[.slice A0 n c0] w fun e w' => e = .returned (.bool false) ∧ Below w.heap.size w w' := by
  have d2 : decide ((65536 : Int) < (n : Int)) = true := decide_eq_true (by omega)
  have d3 : decide (65536 < n) = true := decide_eq_true h
  clear h h2
  go_enter Try.func36, Try.ntmps36
  go_wp2
  go_ret
  exact ⟨rfl, Below.refl _ _⟩
set_option maxRecDepth 100000 in
set_option maxHeartbeats 2000000 in
theorem chart_is_wrong (A0 : Option Addr) (c0 : Nat) (l : List S42) (w : World) (hr0 : Kd.C k42 w A0 l.length l) (hl : l.length ≤ 65536) (ha : l.all rightN = false) :
    Calls Try.prog 36 #[.slice A0 l.length c0] w fun e w' => e = .returned (.bool false) ∧ Below w.heap.size w w' := by
  have d2 : decide ((65536 : Int) < (l.length : Int)) = false := decide_eq_false (by omega)
  have d3 : decide (65536 < l.length) = false := decide_eq_false (by omega)
  have H := Lib.hid (all_calls A0 c0 l w hr0)
  rw [ha] at H
  clear ha hr0 hl
  go_enter Try.func36, Try.ntmps36
  go_wp2_with fail
  refine H.out.mono ?_
  rintro e w1 ⟨rfl, hb⟩
  have HB := Lib.hid hb
  clear hb H
  go_wp2
  go_ret
  exact ⟨rfl, HB.out⟩
set_option maxRecDepth 100000 in
set_option maxHeartbeats 2000000 in
theorem chart_is_walk (A0 : Option Addr) (c0 : Nat) (l : List S42) (w : World) (hr0 : Kd.C k42 w A0 l.length l) (hl : l.length ≤ 65536) (ha : l.all rightN = true) (r : Bool) (hr : ordN l = r) :
    Calls Try.prog 36 #[.slice A0 l.length c0] w fun e w' => e = .returned (.bool r) ∧ Below w.heap.size w w' := by
  have d2 : decide ((65536 : Int) < (l.length : Int)) = false := decide_eq_false (by omega)
  have d3 : decide (65536 < l.length) = false := decide_eq_false (by omega)
  have H := Lib.hid (all_calls A0 c0 l w hr0)
  rw [ha] at H
  have HR0 := Lib.hid hr0
  have HR := Lib.hid hr
  have HL := Lib.hid hl
  clear ha hr0 hl hr
  go_enter Try.func36, Try.ntmps36
  go_wp2_with fail
  refine H.out.mono ?_
  rintro e w1 ⟨rfl, hb⟩
  have HB1 := Lib.hid hb
  clear hb H
  go_wp2
  go_loopw [14] (fun v14 wr => ∃ (i : Nat), i ≤ l.length ∧ v14 = .int .i64 (i : Int) ∧ Aside0 (Below w.heap.size w wr) ∧ Aside0 (ordN (l.drop (i - 1)) = r)) (fun v14 _ => l.length - (intOf v14).toNat)
  case atStart => exact ⟨0, by omega, rfl, ⟨HB1.out⟩, ⟨by simpa using HR.out⟩⟩
  case round =>
    obtain ⟨i, hi, rfl, HB, HI⟩ := hrel
    by_cases hlt : i < l.length
    · have q0 : (0 : Int) ≤ (i : Int) := by omega
      have q1 : (i : Int) < (l.length : Int) := by omega
      have d1 : decide ((i : Int) < (l.length : Int)) = true := decide_eq_true q1
      have hwi : wrap64 ((i : Int) + 1) = ((i + 1 : Nat) : Int) := by have := HL.out; unfold wrap64; omega
      by_cases h0 : i = 0
      · have d4 : decide ((0 : Int) < (i : Int)) = false := decide_eq_false (by omega)
        have d5 : decide (0 < i) = false := decide_eq_false (by omega)
        have HN := Lib.hid (show ordN (l.drop (i + 1 - 1)) = r by have := HI.out; rw [h0] at this ⊢; exact this)
        clear h0 q0 q1
        go_wp2_with fail
        go_quiet (fail)
        go_wp2
        go_roundw
        case rel => exact ⟨i + 1, hlt, by rw [hwi], ⟨pw_below_drewN HB.out _⟩, ⟨HN.out⟩⟩
        case measure => rw [hwi]; exact less_step (by decide) hlt
      · have d4 : decide ((0 : Int) < (i : Int)) = true := decide_eq_true (by omega)
        have d5 : decide (0 < i) = true := decide_eq_true (by omega)
        have hw1 : wrap64 ((i : Int) - 1) = ((i - 1 : Nat) : Int) := by have := HL.out; unfold wrap64; omega
        obtain ⟨j, hj⟩ : ∃ j, j = i - 1 := ⟨_, rfl⟩
        rw [← hj] at hw1 HI
        have p0 : (0 : Int) ≤ (j : Int) := by omega
        have p1 : (j : Int) < (l.length : Int) := by omega
        obtain ⟨ad, rfl, x0, x1, x2, x3⟩ := at_T42 HR0.out (i : Int) q0 q1
        obtain ⟨_, e, y0, y1, y2, y3⟩ := at_T42 HR0.out (j : Int) p0 p1
        cases e
        have hxi : rd_T42 l (i : Int) = l[i] := by unfold rd_T42; simp [List.getD_eq_getElem?_getD, List.getElem?_eq_getElem hlt]
        have hjl : j < l.length := by omega
        have hyj : rd_T42 l (j : Int) = l[j] := by unfold rd_T42; simp [List.getD_eq_getElem?_getD, List.getElem?_eq_getElem hjl]
        have hstep : ordN (l.drop j) = (decide (l[j].f1 < l[i].f0) && ordN (l.drop i)) := by
          have := ord_at l j (by omega)
          have e : j + 1 = i := by omega
          simp only [e] at this
          exact this
        rw [hxi] at x0 x1 x2 x3
        rw [hyj] at y0 y1 y2 y3
        obtain ⟨x, hx⟩ : ∃ x, x = l[i] := ⟨_, rfl⟩
        obtain ⟨y, hy⟩ : ∃ y, y = l[j] := ⟨_, rfl⟩
        rw [← hx] at x0 hstep
        rw [← hy] at y1 hstep
        rw [Int.toNat_natCast] at x0 y1
        replace x0 := (HB.out.cell (World.block_lt_of_cell? _ _ x0)).trans x0
        replace y1 := (HB.out.cell (World.block_lt_of_cell? _ _ y1)).trans y1
        rw [hstep] at HI
        clear hxi hyj hstep hx hy x1 x2 x3 y0 y2 y3 h0 hj hjl
        replace q0 := eq_true q0
        replace q1 := eq_true q1
        replace p0 := eq_true p0
        replace p1 := eq_true p1
        by_cases hle : x.f0 ≤ y.f1
        · have d6 : decide (x.f0 ≤ y.f1) = true := decide_eq_true hle
          have d7 : decide (y.f1 < x.f0) = false := decide_eq_false (by omega)
          rw [d7, Bool.false_and] at HI
          have HRE := Lib.hid HI.out
          clear hle d7 HI
          go_wp2_with fail
          go_quiet (fail)
          go_wp2
          go_ret
          rw [HRE.out]
          exact ⟨rfl, pw_below_drewN HB.out _⟩
        · have d6 : decide (x.f0 ≤ y.f1) = false := decide_eq_false hle
          have d7 : decide (y.f1 < x.f0) = true := decide_eq_true (by omega)
          rw [d7, Bool.true_and] at HI
          have HRE := Lib.hid (show ordN (l.drop (i + 1 - 1)) = r from HI.out)
          clear hle d7 HI
          go_wp2_with fail
          go_quiet (fail)
          go_wp2
          go_roundw
          case rel => exact ⟨i + 1, hlt, by rw [hwi], ⟨pw_below_drewN HB.out _⟩, ⟨HRE.out⟩⟩
          case measure => rw [hwi]; exact less_step (by decide) hlt
    · have hie : i = l.length := by omega
      have d1 : decide ((i : Int) < (l.length : Int)) = false := decide_eq_false (by omega)
      have hres : r = true := by
        rw [← HI.out]
        by_cases h0 : l.length = 0
        · rw [List.length_eq_zero_iff.1 h0]; simp; rfl
        · exact ord_last l (i - 1) (by omega)
      have HRE := Lib.hid hres
      clear hie hres
      go_wp2
      go_ret
      rw [HRE.out]
      exact ⟨rfl, HB.out⟩
def chart_Is.f (l0 : List S42) : Option Bool := some (isL l0)
theorem chart_Is.calls (A0 : Option Addr) (c0 : Nat) (l0 : List S42) (r : Bool) (w : World) (hr0 : Kd.C k42 w A0 l0.length l0) (hc0 : l0.length ≤ c0) (h : chart_Is.f l0 = some r) :
    Calls Try.prog 36 #[.slice A0 l0.length c0] w fun e w' => e = .returned (.bool r) ∧ Below w.heap.size w w' := by
  have hr := Option.some.inj h
  unfold isL at hr
  by_cases h1 : l0.length ≤ 65536
  · rw [decide_eq_true h1, Bool.true_and] at hr
    cases ha : l0.all rightN with
    | true => rw [ha, Bool.true_and] at hr; exact chart_is_walk A0 c0 l0 w hr0 h1 ha r hr
    | false => rw [ha, Bool.false_and] at hr; rw [← hr]; exact chart_is_wrong A0 c0 l0 w hr0 h1 ha
  · rw [decide_eq_false h1, Bool.false_and] at hr
    rw [← hr]
    exact chart_is_many A0 c0 l0.length w (by omega) (Kd.C_max hr0)
end Go.Proofs.Ytgifenlfklbdgaa.P
end
section
namespace Go.Proofs.Ytgifenlfklbdgaa.P
open Go.RowKit Go.Proofs.YtgifenlfklbdgaaW.PrintWords Go.Proofs.YtgifenlfklbdgaaW.PrintLast Go.Proofs.YtgifenlfklbdgaaW.PrintMore
set_option linter.unusedSimpArgs false
set_option linter.unusedVariables false
def atS (l : List S42) (i : Nat) : S42 := l.getD i z42
theorem rd_atS (l : List S42) (i : Nat) : rd_T42 l (i : Int) = atS l i := rfl
theorem atS_get (l : List S42) (i : Nat) (h : i < l.length) : atS l i = l[i] := by
  unfold atS
  rw [List.getD_eq_getElem?_getD, List.getElem?_eq_getElem h]; rfl
end Go.Proofs.Ytgifenlfklbdgaa.P
end
section
namespace Go.Proofs.Ytgifenlfklbdgaa.P
open Go.RowKit Go.Proofs.YtgifenlfklbdgaaW.PrintWords Go.Proofs.YtgifenlfklbdgaaW.PrintLast Go.Proofs.YtgifenlfklbdgaaW.PrintMore
set_option linter.unusedSimpArgs false
set_option linter.unusedVariables false
theorem right_iff (x : S42) : rightN x = true ↔ (0 ≤ x.f0 ∧ x.f0 ≤ x.f1 ∧ x.f1 ≤ 1114111 ∧ (x.f3 = 0 ∨ x.f3 = 1) ∧ 0 ≤ x.f2 ∧ x.f2 ≤ 65535 ∧ x.f2 + x.f3 * (x.f1 - x.f0) ≤ 65535) := by
  unfold rightN
  simp only [Bool.and_eq_true, Bool.or_eq_true, decide_eq_true_eq, beq_iff_eq]
theorem ord_cons {x : S42} {l : List S42} (h : ordN (x :: l) = true) : ordN l = true := by
  cases l with
  | nil => rfl
  | cons y r => rw [ord_step, Bool.and_eq_true] at h; exact h.2
theorem ord_head : ∀ {x : S42} {l : List S42}, (∀ y ∈ l, rightN y = true) → ordN (x :: l) = true → ∀ y ∈ l, x.f1 < y.f0
  | x, [], _, _, y, hy => by simp at hy
  | x, z :: r, hr, h, y, hy => by
    rw [ord_step, Bool.and_eq_true] at h
    have h1 := of_decide_eq_true h.1
    rcases List.mem_cons.1 hy with e | hm
    · rw [e]; exact h1
    · have h2 := ord_head (fun q hq => hr q (List.mem_cons_of_mem _ hq)) h.2 y hm
      obtain ⟨_, a1, _⟩ := (right_iff z).1 (hr z List.mem_cons_self)
      omega
theorem isL_all {l : List S42} (h : isL l = true) : l.length ≤ 65536 ∧ (∀ x ∈ l, rightN x = true) ∧ ordN l = true := by
  unfold isL at h
  simp only [Bool.and_eq_true, decide_eq_true_eq, List.all_eq_true] at h
  exact ⟨h.1, h.2.1, h.2.2⟩
theorem isL_mk {l : List S42} (h1 : l.length ≤ 65536) (h2 : ∀ x ∈ l, rightN x = true) (h3 : ordN l = true) : isL l = true := by
  unfold isL
  simp only [Bool.and_eq_true, decide_eq_true_eq, List.all_eq_true]
  exact ⟨h1, h2, h3⟩
theorem ord_at_lt {l : List S42} (hr : ∀ y ∈ l, rightN y = true) (ho : ordN l = true) : ∀ {i j : Nat} (hij : i < j) (hj : j < l.length), (l[i]'(by omega)).f1 < l[j].f0 := by
  induction l with
  | nil => intro i j _ hj; exact absurd hj (by simp)
  | cons x r ih =>
    intro i j hij hj
    obtain ⟨j, rfl⟩ : ∃ m, j = m + 1 := ⟨j - 1, by omega⟩
    have hj' : j < r.length := by simpa using hj
    cases i with
    | zero => exact ord_head (fun q hq => hr q (List.mem_cons_of_mem _ hq)) ho _ (List.getElem_mem hj')
    | succ i => exact ih (fun q hq => hr q (List.mem_cons_of_mem _ hq)) (ord_cons ho) (by omega) hj'
end Go.Proofs.Ytgifenlfklbdgaa.P
end
