/- A part of the proof of the law SegmentWraps: the words, contracts and plain facts that it needs, no more. Each says its own condition. -/
import Derived.Test.YtgifenlfklbdgaaZSegmentWrapso
import Derived.Test.YtgifenlfklbdgaaZSegmentWrapsg
import Derived.Test.YtgifenlfklbdgaaZSegmentWrapsn
section
namespace Go.Proofs.Ytgifenlfklbdgaa.P
open Go.RowKit Go.Proofs.YtgifenlfklbdgaaW.PrintWords Go.Proofs.YtgifenlfklbdgaaW.PrintLast Go.Proofs.YtgifenlfklbdgaaW.PrintMore
set_option linter.unusedSimpArgs false
set_option linter.unusedVariables false
def atS (l : List S42) (i : Nat) : S42 := l.getD i z42
theorem rd_atS (l : List S42) (i : Nat) : rd_T42 l (i : Int) = atS l i := rfl
theorem atS_get (l : List S42) (i : Nat) (h : i < l.length) : atS l i = l[i] := by
  unfold atS
  rw [List.getD_eq_getElem?_getD, List.getElem?_eq_getElem h]; rfl
def srch (l : List S42) (c : Int) : Nat → Nat → Nat → Nat
  | 0, i, _ => i
  | k + 1, i, j => if i < j then (if (atS l ((i + j) / 2)).f1 < c then srch l c k ((i + j) / 2 + 1) j else srch l c k i ((i + j) / 2)) else i
def cmpN (x : S42) (c : Int) : Int := if x.f1 < c then -1 else if x.f0 > c then 1 else 0
theorem cmp_some (x : S42) (c : Int) : chart_look_1.f x.f0 x.f1 x.f2 x.f3 c = some (cmpN x c) := by
  unfold chart_look_1.f cmpN
  by_cases h : x.f1 < c
  · rw [if_pos h, if_pos h]
  · rw [if_neg h, if_neg h]
    by_cases h2 : x.f0 > c
    · rw [if_pos h2, if_pos h2]
    · rw [if_neg h2, if_neg h2]
theorem cmp_lt (x : S42) (c : Int) : decide (cmpN x c < 0) = decide (x.f1 < c) := by
  unfold cmpN
  by_cases h : x.f1 < c
  · rw [if_pos h, decide_eq_true h]; rfl
  · rw [if_neg h, decide_eq_false h]
    by_cases h2 : x.f0 > c
    · rw [if_pos h2]; rfl
    · rw [if_neg h2]; rfl
def isAt (l : List S42) (c : Int) (i : Nat) : Bool := decide (i < l.length) && (cmpN (atS l i) c == 0)
def glyAt (x : S42) (c : Int) : Int := wrap64 (x.f2 + wrap64 (x.f3 * wrap64 (c - x.f0)))
def placeN (l : List S42) (c : Int) : Nat := srch l c l.length 0 l.length
def lookN (l : List S42) (c : Int) : Int := if isAt l c (placeN l c) = true then glyAt (atS l (placeN l c)) c else 0
theorem srch_step (l : List S42) (c : Int) (k i j : Nat) : srch l c (k + 1) i j = if i < j then (if (atS l ((i + j) / 2)).f1 < c then srch l c k ((i + j) / 2 + 1) j else srch l c k i ((i + j) / 2)) else i := rfl
theorem srch_done (l : List S42) (c : Int) (k i j : Nat) (h : ¬ i < j) : srch l c k i j = i := by
  cases k with
  | zero => rfl
  | succ k => rw [srch_step, if_neg h]
theorem srch_up (l : List S42) (c : Int) (k i j h : Nat) (hk : j ≤ i + (k + 1)) (hlt : i < j) (hh : h = (i + j) / 2) (hc : decide ((atS l h).f1 < c) = true) : srch l c (k + 1) i j = srch l c k (h + 1) j := by
  rw [srch_step, if_pos hlt, ← hh, if_pos (of_decide_eq_true hc)]
theorem srch_down (l : List S42) (c : Int) (k i j h : Nat) (hlt : i < j) (hh : h = (i + j) / 2) (hc : decide ((atS l h).f1 < c) = false) : srch l c (k + 1) i j = srch l c k i h := by
  rw [srch_step, if_pos hlt, ← hh, if_neg (of_decide_eq_false hc)]
def Goes (l : List S42) (c : Int) (i j r : Nat) : Prop := ∀ k, j - i ≤ k → srch l c k i j = r
theorem goes_all (l : List S42) (c : Int) : ∀ (d i j : Nat), j - i ≤ d → ∀ k, j - i ≤ k → srch l c k i j = srch l c d i j
  | 0, i, j, hd, k, hk => by rw [srch_done l c k i j (by omega), srch_done l c 0 i j (by omega)]
  | d + 1, i, j, hd, k, hk => by
    by_cases hlt : i < j
    · obtain ⟨k, rfl⟩ : ∃ n, k = n + 1 := ⟨k - 1, by omega⟩
      rw [srch_step, srch_step, if_pos hlt, if_pos hlt]
      split
      · exact goes_all l c d _ j (by omega) k (by omega)
      · exact goes_all l c d i _ (by omega) k (by omega)
    · rw [srch_done l c k i j hlt, srch_done l c (d + 1) i j hlt]
theorem goes_start (l : List S42) (c : Int) : Goes l c 0 l.length (placeN l c) := fun k hk => goes_all l c l.length 0 l.length (by omega) k hk
theorem goes_up {l : List S42} {c : Int} {i j r h : Nat} (H : Goes l c i j r) (hlt : i < j) (hh : h = (i + j) / 2) (hc : decide ((atS l h).f1 < c) = true) : Goes l c (h + 1) j r := fun k hk => by
  have := H (k + (j - i) + 1) (by omega)
  rw [srch_up l c _ i j h (by omega) hlt hh hc] at this
  rw [← this]
  exact goes_all l c (k + (j - i)) (h + 1) j (by omega) k hk
theorem goes_down {l : List S42} {c : Int} {i j r h : Nat} (H : Goes l c i j r) (hlt : i < j) (hh : h = (i + j) / 2) (hc : decide ((atS l h).f1 < c) = false) : Goes l c i h r := fun k hk => by
  have := H (k + (j - i) + 1) (by omega)
  rw [srch_down l c _ i j h hlt hh hc] at this
  rw [← this]
  exact goes_all l c (k + (j - i)) i h (by omega) k hk
theorem goes_end {l : List S42} {c : Int} {i j r : Nat} (H : Goes l c i j r) (h : ¬ i < j) : i = r := by
  have := H (j - i) (Nat.le_refl _)
  rwa [srch_done l c _ i j h] at this
theorem mid_of {i j h : Nat} (hs : i + j ≤ 131072) (hh : h = (i + j) / 2) : wrap64 (IntKind.u64.wrap (wrap64 ((i : Int) + (j : Int))) / 2) = (h : Int) := by
  have e0 : wrap64 ((i : Int) + (j : Int)) = (i : Int) + (j : Int) := by unfold wrap64; omega
  rw [e0]
  have e : IntKind.u64.wrap ((i : Int) + (j : Int)) = (i : Int) + (j : Int) := by
    unfold IntKind.wrap
    simp [IntKind.bits, IntKind.signed]
    omega
  rw [e, hh]
  unfold wrap64; omega
set_option maxRecDepth 100000 in
set_option maxHeartbeats 2000000 in
theorem search_calls (A0 : Option Addr) (c0 : Nat) (l : List S42) (c : Int) (w : World) (hr0 : Kd.C k42 w A0 l.length l) (hl : l.length ≤ 65536) (r : Nat) (hr : placeN l c = r) :
    Calls Try.prog 112 #[.slice A0 l.length c0, .int .i64 c, .func (.func 113) #[] #[]] w fun e w' => e = .returned (.tuple #[.int .i64 (r : Int), .bool (isAt l c r)]) ∧ Below w.heap.size w w' := by
  have HR0 := Lib.hid hr0
  have HL := Lib.hid hl
  have HS := Lib.hid (show Goes l c 0 l.length r by rw [← hr]; exact goes_start l c)
  clear hr0 hl hr
  go_enter Try.func112, Try.ntmps112
  go_wp2_with fail
  go_loopw [9, 10] (fun v9 v10 wr => ∃ (i j : Nat), i ≤ l.length ∧ j ≤ l.length ∧ v9 = .int .i64 (i : Int) ∧ v10 = .int .i64 (j : Int) ∧ Aside0 (i ≤ j) ∧ Aside0 (Below w.heap.size w wr) ∧ Aside0 (Goes l c i j r)) (fun v9 v10 _ => (intOf v10 - intOf v9).toNat)
  case atStart => exact ⟨0, l.length, by omega, by omega, rfl, rfl, ⟨by omega⟩, ⟨Below.refl _ _⟩, ⟨HS.out⟩⟩
  case round =>
    obtain ⟨i, j, hi, hj, rfl, rfl, HIJ, HB, HG⟩ := hrel
    by_cases hlt : i < j
    · have d1 : decide ((i : Int) < (j : Int)) = true := decide_eq_true (by omega)
      have d2 : decide (i < j) = true := decide_eq_true hlt
      obtain ⟨h, hh⟩ : ∃ h, h = (i + j) / 2 := ⟨_, rfl⟩
      have hm := mid_of (i := i) (j := j) (by have := HL.out; omega) hh
      have p0 : (0 : Int) ≤ (h : Int) := by omega
      have p1 : (h : Int) < (l.length : Int) := by omega
      have hw : wrap64 ((h : Int) + 1) = ((h + 1 : Nat) : Int) := by have := HL.out; unfold wrap64; omega
      obtain ⟨ad, rfl, x0, x1, x2, x3⟩ := at_T42 HR0.out (h : Int) p0 p1
      rw [rd_atS] at x0 x1 x2 x3
      obtain ⟨x, hx⟩ : ∃ x, x = atS l h := ⟨_, rfl⟩
      rw [← hx] at x0 x1 x2 x3
      rw [Int.toNat_natCast] at x0 x1 x2 x3
      replace x0 := (HB.out.cell (World.block_lt_of_cell? _ _ x0)).trans x0
      replace x1 := (HB.out.cell (World.block_lt_of_cell? _ _ x1)).trans x1
      replace x2 := (HB.out.cell (World.block_lt_of_cell? _ _ x2)).trans x2
      replace x3 := (HB.out.cell (World.block_lt_of_cell? _ _ x3)).trans x3
      have HH := Lib.hid hh
      have HX := Lib.hid hx
      have HLT := Lib.hid hlt
      have HHJ := Lib.hid (show h < j ∧ i ≤ h by omega)
      clear hh hx hlt
      replace p0 := eq_true p0
      replace p1 := eq_true p1
      go_wp2_with fail
      refine (chart_look_1.calls x.f0 x.f1 x.f2 x.f3 c (cmpN x c) _ (cmp_some x c)).mono ?_
      rintro e w1 ⟨rfl, hb⟩
      have HB2 := Lib.hid (HB.out.trans (hb.mono HB.out.size))
      obtain ⟨y, hy⟩ : ∃ y, y = cmpN x c := ⟨_, rfl⟩
      rw [← hy]
      by_cases hc : x.f1 < c
      · have d3 : decide (y < 0) = true := by rw [hy, cmp_lt]; exact decide_eq_true hc
        have HG2 := Lib.hid (goes_up HG.out HLT.out HH.out (by rw [← HX.out]; exact decide_eq_true hc))
        clear hb hy hc
        go_wp2
        go_roundw
        case rel => exact ⟨h + 1, j, by have := HHJ.out; omega, hj, by rw [hw], rfl, ⟨by have := HHJ.out; omega⟩, ⟨HB2.out⟩, ⟨HG2.out⟩⟩
        case measure => rw [hw]; have := HHJ.out; have := HLT.out; simp only [intOf]; omega
      · have d3 : decide (y < 0) = false := by rw [hy, cmp_lt]; exact decide_eq_false hc
        have HG2 := Lib.hid (goes_down HG.out HLT.out HH.out (by rw [← HX.out]; exact decide_eq_false hc))
        clear hb hy hc
        go_wp2
        go_roundw
        case rel => exact ⟨i, h, hi, by have := HHJ.out; omega, rfl, rfl, ⟨by have := HHJ.out; omega⟩, ⟨HB2.out⟩, ⟨HG2.out⟩⟩
        case measure => have := HHJ.out; have := HLT.out; simp only [intOf]; omega
    · have d1 : decide ((i : Int) < (j : Int)) = false := decide_eq_false (by omega)
      have d2 : decide (i < j) = false := decide_eq_false hlt
      have hir : i = r := goes_end HG.out hlt
      subst hir
      by_cases hn : i < l.length
      · have p0 : (0 : Int) ≤ (i : Int) := by omega
        have p1 : (i : Int) < (l.length : Int) := by omega
        have d3 : decide ((i : Int) < (l.length : Int)) = true := decide_eq_true p1
        have d4 : decide (i < l.length) = true := decide_eq_true hn
        obtain ⟨ad, rfl, x0, x1, x2, x3⟩ := at_T42 HR0.out (i : Int) p0 p1
        rw [rd_atS] at x0 x1 x2 x3
        obtain ⟨x, hx⟩ : ∃ x, x = atS l i := ⟨_, rfl⟩
        rw [← hx] at x0 x1 x2 x3
        rw [Int.toNat_natCast] at x0 x1 x2 x3
        replace x0 := (HB.out.cell (World.block_lt_of_cell? _ _ x0)).trans x0
        replace x1 := (HB.out.cell (World.block_lt_of_cell? _ _ x1)).trans x1
        replace x2 := (HB.out.cell (World.block_lt_of_cell? _ _ x2)).trans x2
        replace x3 := (HB.out.cell (World.block_lt_of_cell? _ _ x3)).trans x3
        have HRE := Lib.hid (show isAt l c i = (cmpN x c == 0) by unfold isAt; rw [decide_eq_true hn, Bool.true_and, hx])
        clear hx hn
        replace p0 := eq_true p0
        replace p1 := eq_true p1
        go_wp2_with fail
        refine (chart_look_1.calls x.f0 x.f1 x.f2 x.f3 c (cmpN x c) _ (cmp_some x c)).mono ?_
        rintro e w1 ⟨rfl, hb⟩
        have HB2 := Lib.hid (HB.out.trans (hb.mono HB.out.size))
        obtain ⟨y, hy⟩ : ∃ y, y = cmpN x c := ⟨_, rfl⟩
        rw [← hy] at HRE ⊢
        clear hb hy
        go_wp2
        go_ret2
        rw [HRE.out]
        exact ⟨rfl, HB2.out⟩
      · have d3 : decide ((i : Int) < (l.length : Int)) = false := decide_eq_false (by omega)
        have d4 : decide (i < l.length) = false := decide_eq_false hn
        have HRE := Lib.hid (show isAt l c i = false by unfold isAt; rw [decide_eq_false hn, Bool.false_and])
        clear hn
        go_wp2
        go_ret2
        rw [HRE.out]
        exact ⟨rfl, HB.out⟩
theorem isAt_in {l : List S42} {c : Int} {i : Nat} (h : isAt l c i = true) : i < l.length := by
  unfold isAt at h
  rw [Bool.and_eq_true] at h
  exact of_decide_eq_true h.1
set_option maxRecDepth 100000 in
set_option maxHeartbeats 2000000 in
theorem look_walk (A0 : Option Addr) (c0 : Nat) (l : List S42) (c : Int) (w : World) (hr0 : Kd.C k42 w A0 l.length l) (hl : l.length ≤ 65536) (r : Int) (hr : lookN l c = r) :
    Calls Try.prog 72 #[.slice A0 l.length c0, .int .i64 c] w fun e w' => e = .returned (.int .i64 r) ∧ Below w.heap.size w w' := by
  obtain ⟨i, hi⟩ : ∃ i, i = placeN l c := ⟨_, rfl⟩
  have H := Lib.hid (search_calls A0 c0 l c w hr0 hl i hi.symm)
  have hr' : (if isAt l c i = true then glyAt (atS l i) c else 0) = r := by rw [← hr, hi]; rfl
  obtain ⟨b, hb⟩ : ∃ b, b = isAt l c i := ⟨_, rfl⟩
  have hin : b = true → i < l.length := fun h => isAt_in (hb.symm.trans h)
  rw [← hb] at hr' H
  have HR0 := Lib.hid hr0
  clear hi hr hb hr0 hl
  cases b with
  | false =>
    rw [if_neg Bool.false_ne_true] at hr'
    have HRE := Lib.hid hr'
    clear hr' hin
    go_enter Try.func72, Try.ntmps72
    go_wp2_with fail
    refine H.out.mono ?_
    rintro e w1 ⟨rfl, hb⟩
    have HB := Lib.hid hb
    clear hb H
    go_wp2
    go_ret
    rw [← HRE.out]
    exact ⟨rfl, HB.out⟩
  | true =>
    rw [if_pos rfl] at hr'
    have hn := hin rfl
    have p0 : (0 : Int) ≤ (i : Int) := by omega
    have p1 : (i : Int) < (l.length : Int) := by omega
    obtain ⟨ad, rfl, x0, x1, x2, x3⟩ := at_T42 HR0.out (i : Int) p0 p1
    rw [rd_atS] at x0 x1 x2 x3
    obtain ⟨x, hx⟩ : ∃ x, x = atS l i := ⟨_, rfl⟩
    rw [← hx] at x0 x1 x2 x3 hr'
    rw [Int.toNat_natCast] at x0 x1 x2 x3
    have HRE := Lib.hid hr'
    clear hr' hin hn hx
    replace p0 := eq_true p0
    replace p1 := eq_true p1
    go_enter Try.func72, Try.ntmps72
    go_wp2_with fail
    refine H.out.mono ?_
    rintro e w1 ⟨rfl, hb⟩
    have HB := Lib.hid hb
    replace x0 := (hb.cell (World.block_lt_of_cell? _ _ x0)).trans x0
    replace x1 := (hb.cell (World.block_lt_of_cell? _ _ x1)).trans x1
    replace x2 := (hb.cell (World.block_lt_of_cell? _ _ x2)).trans x2
    replace x3 := (hb.cell (World.block_lt_of_cell? _ _ x3)).trans x3
    clear hb H
    go_wp2_with fail
    refine (chart_span_glyph.calls x.f0 x.f1 x.f2 x.f3 c (glyAt x c) _ rfl).mono ?_
    rintro e w2 ⟨rfl, hb⟩
    have HB2 := Lib.hid (HB.out.trans (hb.mono HB.out.size))
    obtain ⟨y, hy⟩ : ∃ y, y = glyAt x c := ⟨_, rfl⟩
    rw [← hy] at HRE ⊢
    clear hb hy
    go_wp2
    go_ret
    rw [HRE.out]
    exact ⟨rfl, HB2.out⟩
def chart_look.f (l0 : List S42) (a1 : Int) : Option Int := if l0.length ≤ 65536 then some (lookN l0 a1) else none
theorem chart_look.calls (A0 : Option Addr) (c0 : Nat) (l0 : List S42) (a1 : Int) (r : Int) (w : World) (hr0 : Kd.C k42 w A0 l0.length l0) (hc0 : l0.length ≤ c0) (h : chart_look.f l0 a1 = some r) :
    Calls Try.prog 72 #[.slice A0 l0.length c0, .int .i64 a1] w fun e w' => e = .returned (.int .i64 r) ∧ Below w.heap.size w w' := by
  unfold chart_look.f at h
  split at h
  · rename_i hl
    exact look_walk A0 c0 l0 a1 w hr0 hl r (Option.some.inj h)
  · exact absurd h (by simp)
end Go.Proofs.Ytgifenlfklbdgaa.P
end
section
namespace Go.Proofs.Ytgifenlfklbdgaa.P
open Go.RowKit Go.Proofs.YtgifenlfklbdgaaW.PrintWords Go.Proofs.YtgifenlfklbdgaaW.PrintLast Go.Proofs.YtgifenlfklbdgaaW.PrintMore
attribute [local go_sem] max2_int min2_int max_two min_two max_three min_three max_four min_four
set_option linter.unusedVariables false
set_option linter.unusedSimpArgs false
def chart_Look.f (l0 : List (S42)) (a1 : Int) : Option (Int) := (chart_Is.f l0).bind fun t248 => (if t248 = true then ((chart_look.f l0 a1).bind fun t249 => (some t249)) else (some 0))
set_option maxHeartbeats 8000000 in
set_option maxRecDepth 100000 in
theorem chart_Look.calls (A0 : Option Addr) (c0 : Nat) (l0 : List (S42)) (a1 : Int) (r : Int) (w : World) (hr0 : Kd.C k42 w A0 l0.length l0) (hc0 : l0.length ≤ c0) (h : chart_Look.f l0 a1 = some r) :
    Calls Try.prog 35 #[.slice A0 l0.length c0, .int .i64 a1] w fun e w' => e = .returned (.int .i64 r) ∧ Below w.heap.size w w' := by
  have HR0 := Aside0.mk hr0
  have HC0 := Aside0.mk hc0
  clear hr0 hc0
  have HB := Aside0.mk (Below.refl w.heap.size w)
  have H : ((chart_Is.f l0).bind fun t248 => (if t248 = true then ((chart_look.f l0 a1).bind fun t249 => (some t249)) else (some 0))) = some r := h
  clear h
  replace H := Option.bind_eq_some_iff.mp H
  obtain ⟨t248, A30, H⟩ := H
  replace H : (if t248 = true then ((chart_look.f l0 a1).bind fun t249 => (some t249)) else (some 0)) = some r := H
  have A3 := Aside0.mk A30
  clear A30
  by_cases c4 : t248 = true
  · subst c4
    have H1 : ((chart_look.f l0 a1).bind fun t249 => (some t249)) = some r := by rw [if_pos rfl] at H; exact H
    clear H
    have H := H1
    clear H1
    replace H := Option.bind_eq_some_iff.mp H
    obtain ⟨t249, A50, H⟩ := H
    replace H : (some t249) = some r := H
    have A5 := Aside0.mk A50
    clear A50
    obtain rfl := Option.some.inj H
    go_enter Try.func35, Try.ntmps35
    go_wp2_with (first | ((with_reducible refine gate_callee (f := 36) rfl ?_); refine goesL_ (some 6) rfl rfl Try.func36 (by kernel_rfl) rfl #[.slice A0 l0.length c0] rfl (by (try simp only [List.map_toArray, List.map_cons, List.map_nil]); first | done | rfl | (simp only [List.length_drop, List.length_take]; rfl)) ?_; (with_reducible refine (chart_Is.calls _ _ l0 true _ ?side1 ?side2 A3.out).mono ?_); (case side1 => repeat (first | exact HR0.out | (with_reducible refine Kd.C_alloc ?_ _) | (with_reducible refine Kd.C_drewN ?_ _) | (with_reducible refine Kd.C_drew ?_))); (case side2 => exact HC0.out); rintro e w6 ⟨rfl, hb⟩; refine ⟨_, rfl, ?_⟩; have n0_ := Aside0.mk (below_step (by repeat (first | (with_reducible first | exact HB.out | apply below_alloc | apply pw_below_drewN | apply below_drew1) | exact HB.out)) hb); clear HB; have HB := n0_; clear n0_; (try clear hb); (try clear hb2); (try clear hk); (try clear hi)) | ((with_reducible refine gate_callee (f := 72) rfl ?_); refine goesL_ (some 10) rfl rfl Try.func72 (by kernel_rfl) rfl #[.slice A0 l0.length c0, .int .i64 a1] rfl (by (try simp only [List.map_toArray, List.map_cons, List.map_nil]); first | done | rfl | (simp only [List.length_drop, List.length_take]; rfl)) ?_; (with_reducible refine (chart_look.calls _ _ l0 a1 t249 _ ?side1 ?side2 A5.out).mono ?_); (case side1 => repeat (first | exact (Kd.C_below HR0.out HB.out) | (with_reducible refine Kd.C_alloc ?_ _) | (with_reducible refine Kd.C_drewN ?_ _) | (with_reducible refine Kd.C_drew ?_))); (case side2 => exact HC0.out); rintro e w7 ⟨rfl, hb⟩; refine ⟨_, rfl, ?_⟩; have n0_ := Aside0.mk (below_step (by repeat (first | (with_reducible first | exact HB.out | apply below_alloc | apply pw_below_drewN | apply below_drew1) | exact HB.out)) hb); clear HB; have HB := n0_; clear n0_; (try clear hb); (try clear hb2); (try clear hk); (try clear hi)))
    go_ret
    exact ⟨by first | rfl | (simp [errW_none, errW_some] <;> rfl) | (simp [*, errW_none, errW_some] <;> rfl), by repeat (first | (with_reducible first | exact HB.out | apply below_alloc | apply pw_below_drewN | apply below_drew1) | exact HB.out)⟩
  · replace c4 := Bool.eq_false_iff.mpr c4
    subst c4
    have H1 : (some 0) = some r := by rw [if_neg (show ¬ (false = true) by decide)] at H; exact H
    clear H
    have H := H1
    clear H1
    obtain rfl := Option.some.inj H
    go_enter Try.func35, Try.ntmps35
    go_wp2_with (first | ((with_reducible refine gate_callee (f := 36) rfl ?_); refine goesL_ (some 6) rfl rfl Try.func36 (by kernel_rfl) rfl #[.slice A0 l0.length c0] rfl (by (try simp only [List.map_toArray, List.map_cons, List.map_nil]); first | done | rfl | (simp only [List.length_drop, List.length_take]; rfl)) ?_; (with_reducible refine (chart_Is.calls _ _ l0 false _ ?side1 ?side2 A3.out).mono ?_); (case side1 => repeat (first | exact HR0.out | (with_reducible refine Kd.C_alloc ?_ _) | (with_reducible refine Kd.C_drewN ?_ _) | (with_reducible refine Kd.C_drew ?_))); (case side2 => exact HC0.out); rintro e w8 ⟨rfl, hb⟩; refine ⟨_, rfl, ?_⟩; have n0_ := Aside0.mk (below_step (by repeat (first | (with_reducible first | exact HB.out | apply below_alloc | apply pw_below_drewN | apply below_drew1) | exact HB.out)) hb); clear HB; have HB := n0_; clear n0_; (try clear hb); (try clear hb2); (try clear hk); (try clear hi)))
    go_ret
    exact ⟨by first | rfl | (simp [errW_none, errW_some] <;> rfl) | (simp [*, errW_none, errW_some] <;> rfl), by repeat (first | (with_reducible first | exact HB.out | apply below_alloc | apply pw_below_drewN | apply below_drew1) | exact HB.out)⟩
end Go.Proofs.Ytgifenlfklbdgaa.P
end
