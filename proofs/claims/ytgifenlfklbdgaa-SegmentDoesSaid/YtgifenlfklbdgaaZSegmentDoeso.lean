/- A part of the proof of the law SegmentDoes: the words, contracts and plain facts that it needs, no more. Each says its own condition. -/
import Derived.Test.YtgifenlfklbdgaaZSegmentDoesg
section
namespace Go.Proofs.Ytgifenlfklbdgaa.P
open Go.RowKit Go.Proofs.YtgifenlfklbdgaaW.PrintWords Go.Proofs.YtgifenlfklbdgaaW.PrintLast Go.Proofs.YtgifenlfklbdgaaW.PrintMore
attribute [local go_sem] max2_int min2_int max_two min_two max_three min_three max_four min_four
set_option linter.unusedVariables false
set_option linter.unusedSimpArgs false
def chart_span_glyph.f (a0_0 : Int) (a0_1 : Int) (a0_2 : Int) (a0_3 : Int) (a1 : Int) : Option (Int) := some (wrap64 (a0_2 + (wrap64 (a0_3 * (wrap64 (a1 - a0_0))))))
set_option maxHeartbeats 8000000 in
set_option maxRecDepth 100000 in
theorem chart_span_glyph.calls (a0_0 : Int) (a0_1 : Int) (a0_2 : Int) (a0_3 : Int) (a1 : Int) (r : Int) (w : World) (h : chart_span_glyph.f a0_0 a0_1 a0_2 a0_3 a1 = some r) :
    Calls Try.prog 114 #[.agg #[.int .i64 a0_0, .int .i64 a0_1, .int .i64 a0_2, .int .i64 a0_3], .int .i64 a1] w fun e w' => e = .returned (.int .i64 r) ∧ Below w.heap.size w w' := by
  have hu95 := Try.underlying95
  have HB := Aside0.mk (Below.refl w.heap.size w)
  have H : (some (wrap64 (a0_2 + (wrap64 (a0_3 * (wrap64 (a1 - a0_0))))))) = some r := h
  clear h
  obtain rfl := Option.some.inj H
  go_enter Try.func114, Try.ntmps114
  go_wp2_with (first | ((with_reducible refine gate_dst (N := 2) rfl ?_); refine box_event ?hg (N := 2) ?hd (cs := #[.int .i64 a0_0, .int .i64 a0_1, .int .i64 a0_2, .int .i64 a0_3]) (t := 95) ?hr ?_; (case hd => rfl); (case hg => rfl); (case hr => first | (go_simp; done) | (go_simp; rfl)); intro gb191 hg w3 hbox hb; have n0_ := Aside0.mk (below_step (by repeat (first | (with_reducible first | exact HB.out | apply below_alloc | apply pw_below_drewN | apply below_drew1) | exact HB.out)) hb); have n1_ := Aside0.mk (hbox); have n2_ := Aside0.mk ((by rw [hg]; exact (below_size (by repeat (first | (with_reducible first | exact HB.out | apply below_alloc | apply pw_below_drewN | apply below_drew1) | exact HB.out))) : w.heap.size ≤ gb191)); have n3_ := Aside0.mk ((by rw [hg]; exact (below_size (by repeat (first | (with_reducible first | exact HB.out | apply below_alloc | apply pw_below_drewN | apply below_drew1) | exact HB.out))) : w.heap.size ≤ gb191)); clear HB; have HB := n0_; have BK191 := n1_; have GW191 := n2_; have GE191 := n3_; clear n0_ n1_ n2_ n3_; clear hb hbox hg; have hcz4_0 : w3.cell? ⟨gb191, 0, none⟩ = some (.int .i64 a0_0) := (blk_cell BK191.out 0).trans rfl; have hcz4_1 : w3.cell? ⟨gb191, 1, none⟩ = some (.int .i64 a0_1) := (blk_cell BK191.out 1).trans rfl; have hcz4_2 : w3.cell? ⟨gb191, 2, none⟩ = some (.int .i64 a0_2) := (blk_cell BK191.out 2).trans rfl; have hcz4_3 : w3.cell? ⟨gb191, 3, none⟩ = some (.int .i64 a0_3) := (blk_cell BK191.out 3).trans rfl; have hfz4_0 := blk_frozen BK191.out 0; have hfz4_1 := blk_frozen BK191.out 1; have hfz4_2 := blk_frozen BK191.out 2; have hfz4_3 := blk_frozen BK191.out 3))
  go_ret
  exact ⟨by first | rfl | (simp [errW_none, errW_some] <;> rfl) | (simp [*, errW_none, errW_some] <;> rfl), by repeat (first | (with_reducible first | exact HB.out | apply below_alloc | apply pw_below_drewN | apply below_drew1 | refine below_set ?_ GE191.out) | exact HB.out)⟩
end Go.Proofs.Ytgifenlfklbdgaa.P
end
section
namespace Go.Proofs.Ytgifenlfklbdgaa.P
open Go.RowKit Go.Proofs.YtgifenlfklbdgaaW.PrintWords Go.Proofs.YtgifenlfklbdgaaW.PrintLast Go.Proofs.YtgifenlfklbdgaaW.PrintMore
attribute [local go_sem] max2_int min2_int max_two min_two max_three min_three max_four min_four
set_option linter.unusedVariables false
set_option linter.unusedSimpArgs false
def chart_span_right.f (a0_0 : Int) (a0_1 : Int) (a0_2 : Int) (a0_3 : Int) : Option (Bool) := if a0_0 ≥ 0 then (if a0_1 ≥ a0_0 then (if a0_1 ≤ 1114111 then (if a0_3 = 0 then (if a0_2 ≥ 0 then (if a0_2 ≤ 65535 then ((chart_span_glyph.f a0_0 a0_1 a0_2 a0_3 a0_1).bind fun t841 => (some (decide (t841 ≤ 65535)))) else (some false)) else (some false)) else (if a0_3 = 1 then (if a0_2 ≥ 0 then (if a0_2 ≤ 65535 then ((chart_span_glyph.f a0_0 a0_1 a0_2 a0_3 a0_1).bind fun t842 => (some (decide (t842 ≤ 65535)))) else (some false)) else (some false)) else (some false))) else (some false)) else (some false)) else (some false)
set_option maxHeartbeats 8000000 in
set_option maxRecDepth 100000 in
theorem chart_span_right.calls (a0_0 : Int) (a0_1 : Int) (a0_2 : Int) (a0_3 : Int) (r : Bool) (w : World) (h : chart_span_right.f a0_0 a0_1 a0_2 a0_3 = some r) :
    Calls Try.prog 74 #[.agg #[.int .i64 a0_0, .int .i64 a0_1, .int .i64 a0_2, .int .i64 a0_3]] w fun e w' => e = .returned (.bool r) ∧ Below w.heap.size w w' := by
  have hu95 := Try.underlying95
  have HB := Aside0.mk (Below.refl w.heap.size w)
  have H : (if a0_0 ≥ 0 then (if a0_1 ≥ a0_0 then (if a0_1 ≤ 1114111 then (if a0_3 = 0 then (if a0_2 ≥ 0 then (if a0_2 ≤ 65535 then ((chart_span_glyph.f a0_0 a0_1 a0_2 a0_3 a0_1).bind fun t841 => (some (decide (t841 ≤ 65535)))) else (some false)) else (some false)) else (if a0_3 = 1 then (if a0_2 ≥ 0 then (if a0_2 ≤ 65535 then ((chart_span_glyph.f a0_0 a0_1 a0_2 a0_3 a0_1).bind fun t842 => (some (decide (t842 ≤ 65535)))) else (some false)) else (some false)) else (some false))) else (some false)) else (some false)) else (some false)) = some r := h
  clear h
  by_cases c2 : a0_0 ≥ 0
  · rw [if_pos c2] at H
    have c2b0 : decide (0 ≤ a0_0) = true := decide_eq_true c2
    clear c2
    by_cases c3 : a0_1 ≥ a0_0
    · rw [if_pos c3] at H
      have c3b0 : decide (a0_0 ≤ a0_1) = true := decide_eq_true c3
      clear c3
      by_cases c4 : a0_1 ≤ 1114111
      · rw [if_pos c4] at H
        have c4b0 : decide (a0_1 ≤ 1114111) = true := decide_eq_true c4
        clear c4
        by_cases c5 : a0_3 = 0
        · rw [if_pos c5] at H
          have c5b0 : (a0_3 == 0) = true := beq_iff_eq.mpr c5
          have c5b1 : (a0_3 != 0) = false := bne_eq_false_iff_eq.mpr c5
          clear c5
          by_cases c6 : a0_2 ≥ 0
          · rw [if_pos c6] at H
            have c6b0 : decide (0 ≤ a0_2) = true := decide_eq_true c6
            clear c6
            by_cases c7 : a0_2 ≤ 65535
            · rw [if_pos c7] at H
              have c7b0 : decide (a0_2 ≤ 65535) = true := decide_eq_true c7
              clear c7
              replace H := Option.bind_eq_some_iff.mp H
              obtain ⟨t841, A80, H⟩ := H
              replace H : (some (decide (t841 ≤ 65535))) = some r := H
              have A8 := Aside0.mk A80
              clear A80
              obtain rfl := Option.some.inj H
              go_enter Try.func74, Try.ntmps74
              go_wp2_with (first | ((with_reducible refine gate_dst (N := 1) rfl ?_); refine box_event ?hg (N := 1) ?hd (cs := #[.int .i64 a0_0, .int .i64 a0_1, .int .i64 a0_2, .int .i64 a0_3]) (t := 95) ?hr ?_; (case hd => rfl); (case hg => rfl); (case hr => first | (go_simp; done) | (go_simp; rfl)); intro gb840 hg w9 hbox hb; have n0_ := Aside0.mk (below_step (by repeat (first | (with_reducible first | exact HB.out | apply below_alloc | apply pw_below_drewN | apply below_drew1) | exact HB.out)) hb); have n1_ := Aside0.mk (hbox); have n2_ := Aside0.mk ((by rw [hg]; exact (below_size (by repeat (first | (with_reducible first | exact HB.out | apply below_alloc | apply pw_below_drewN | apply below_drew1) | exact HB.out))) : w.heap.size ≤ gb840)); have n3_ := Aside0.mk ((by rw [hg]; exact (below_size (by repeat (first | (with_reducible first | exact HB.out | apply below_alloc | apply pw_below_drewN | apply below_drew1) | exact HB.out))) : w.heap.size ≤ gb840)); clear HB; have HB := n0_; have BK840 := n1_; have GW840 := n2_; have GE840 := n3_; clear n0_ n1_ n2_ n3_; clear hb hbox hg; have hcz10_0 : w9.cell? ⟨gb840, 0, none⟩ = some (.int .i64 a0_0) := (blk_cell BK840.out 0).trans rfl; have hcz10_1 : w9.cell? ⟨gb840, 1, none⟩ = some (.int .i64 a0_1) := (blk_cell BK840.out 1).trans rfl; have hcz10_2 : w9.cell? ⟨gb840, 2, none⟩ = some (.int .i64 a0_2) := (blk_cell BK840.out 2).trans rfl; have hcz10_3 : w9.cell? ⟨gb840, 3, none⟩ = some (.int .i64 a0_3) := (blk_cell BK840.out 3).trans rfl; have hfz10_0 := blk_frozen BK840.out 0; have hfz10_1 := blk_frozen BK840.out 1; have hfz10_2 := blk_frozen BK840.out 2; have hfz10_3 := blk_frozen BK840.out 3) | (go_at_call 114; (with_reducible refine (chart_span_glyph.calls a0_0 a0_1 a0_2 a0_3 a0_1 t841 _ A8.out).mono ?_); rintro e w11 ⟨rfl, hb⟩; have n0_ := Aside0.mk (blk_below (g := gb840) (o := .cells #[.int .i64 a0_0, .int .i64 a0_1, .int .i64 a0_2, .int .i64 a0_3] 95 (0, 0)) (by (with_reducible repeat (first | refine blk_drewN ?_ _ | refine blk_drew ?_ | refine blk_alloc ?_ _)); exact BK840.out) hb); have n1_ := Aside0.mk (below_step (by repeat (first | (with_reducible first | exact HB.out | apply below_alloc | apply pw_below_drewN | apply below_drew1 | refine below_set ?_ GE840.out) | exact HB.out)) hb); clear BK840; clear HB; have BK840 := n0_; have HB := n1_; clear n0_ n1_; (try clear hb); (try clear hb2); (try clear hk); (try clear hi)))
              go_ret
              exact ⟨by first | rfl | (simp [errW_none, errW_some] <;> rfl) | (simp [*, errW_none, errW_some] <;> rfl), by repeat (first | (with_reducible first | exact HB.out | apply below_alloc | apply pw_below_drewN | apply below_drew1 | refine below_set ?_ GE840.out) | exact HB.out)⟩
            · rw [if_neg c7] at H
              have c7b0 : decide (a0_2 ≤ 65535) = false := decide_eq_false c7
              clear c7
              obtain rfl := Option.some.inj H
              go_enter Try.func74, Try.ntmps74
              go_wp2_with (first | ((with_reducible refine gate_dst (N := 1) rfl ?_); refine box_event ?hg (N := 1) ?hd (cs := #[.int .i64 a0_0, .int .i64 a0_1, .int .i64 a0_2, .int .i64 a0_3]) (t := 95) ?hr ?_; (case hd => rfl); (case hg => rfl); (case hr => first | (go_simp; done) | (go_simp; rfl)); intro gb840 hg w12 hbox hb; have n0_ := Aside0.mk (below_step (by repeat (first | (with_reducible first | exact HB.out | apply below_alloc | apply pw_below_drewN | apply below_drew1) | exact HB.out)) hb); have n1_ := Aside0.mk (hbox); have n2_ := Aside0.mk ((by rw [hg]; exact (below_size (by repeat (first | (with_reducible first | exact HB.out | apply below_alloc | apply pw_below_drewN | apply below_drew1) | exact HB.out))) : w.heap.size ≤ gb840)); have n3_ := Aside0.mk ((by rw [hg]; exact (below_size (by repeat (first | (with_reducible first | exact HB.out | apply below_alloc | apply pw_below_drewN | apply below_drew1) | exact HB.out))) : w.heap.size ≤ gb840)); clear HB; have HB := n0_; have BK840 := n1_; have GW840 := n2_; have GE840 := n3_; clear n0_ n1_ n2_ n3_; clear hb hbox hg; have hcz13_0 : w12.cell? ⟨gb840, 0, none⟩ = some (.int .i64 a0_0) := (blk_cell BK840.out 0).trans rfl; have hcz13_1 : w12.cell? ⟨gb840, 1, none⟩ = some (.int .i64 a0_1) := (blk_cell BK840.out 1).trans rfl; have hcz13_2 : w12.cell? ⟨gb840, 2, none⟩ = some (.int .i64 a0_2) := (blk_cell BK840.out 2).trans rfl; have hcz13_3 : w12.cell? ⟨gb840, 3, none⟩ = some (.int .i64 a0_3) := (blk_cell BK840.out 3).trans rfl; have hfz13_0 := blk_frozen BK840.out 0; have hfz13_1 := blk_frozen BK840.out 1; have hfz13_2 := blk_frozen BK840.out 2; have hfz13_3 := blk_frozen BK840.out 3))
              go_ret
              exact ⟨by first | rfl | (simp [errW_none, errW_some] <;> rfl) | (simp [*, errW_none, errW_some] <;> rfl), by repeat (first | (with_reducible first | exact HB.out | apply below_alloc | apply pw_below_drewN | apply below_drew1 | refine below_set ?_ GE840.out) | exact HB.out)⟩
          · rw [if_neg c6] at H
            have c6b0 : decide (0 ≤ a0_2) = false := decide_eq_false c6
            clear c6
            obtain rfl := Option.some.inj H
            go_enter Try.func74, Try.ntmps74
            go_wp2_with (first | ((with_reducible refine gate_dst (N := 1) rfl ?_); refine box_event ?hg (N := 1) ?hd (cs := #[.int .i64 a0_0, .int .i64 a0_1, .int .i64 a0_2, .int .i64 a0_3]) (t := 95) ?hr ?_; (case hd => rfl); (case hg => rfl); (case hr => first | (go_simp; done) | (go_simp; rfl)); intro gb840 hg w14 hbox hb; have n0_ := Aside0.mk (below_step (by repeat (first | (with_reducible first | exact HB.out | apply below_alloc | apply pw_below_drewN | apply below_drew1) | exact HB.out)) hb); have n1_ := Aside0.mk (hbox); have n2_ := Aside0.mk ((by rw [hg]; exact (below_size (by repeat (first | (with_reducible first | exact HB.out | apply below_alloc | apply pw_below_drewN | apply below_drew1) | exact HB.out))) : w.heap.size ≤ gb840)); have n3_ := Aside0.mk ((by rw [hg]; exact (below_size (by repeat (first | (with_reducible first | exact HB.out | apply below_alloc | apply pw_below_drewN | apply below_drew1) | exact HB.out))) : w.heap.size ≤ gb840)); clear HB; have HB := n0_; have BK840 := n1_; have GW840 := n2_; have GE840 := n3_; clear n0_ n1_ n2_ n3_; clear hb hbox hg; have hcz15_0 : w14.cell? ⟨gb840, 0, none⟩ = some (.int .i64 a0_0) := (blk_cell BK840.out 0).trans rfl; have hcz15_1 : w14.cell? ⟨gb840, 1, none⟩ = some (.int .i64 a0_1) := (blk_cell BK840.out 1).trans rfl; have hcz15_2 : w14.cell? ⟨gb840, 2, none⟩ = some (.int .i64 a0_2) := (blk_cell BK840.out 2).trans rfl; have hcz15_3 : w14.cell? ⟨gb840, 3, none⟩ = some (.int .i64 a0_3) := (blk_cell BK840.out 3).trans rfl; have hfz15_0 := blk_frozen BK840.out 0; have hfz15_1 := blk_frozen BK840.out 1; have hfz15_2 := blk_frozen BK840.out 2; have hfz15_3 := blk_frozen BK840.out 3))
            go_ret
            exact ⟨by first | rfl | (simp [errW_none, errW_some] <;> rfl) | (simp [*, errW_none, errW_some] <;> rfl), by repeat (first | (with_reducible first | exact HB.out | apply below_alloc | apply pw_below_drewN | apply below_drew1 | refine below_set ?_ GE840.out) | exact HB.out)⟩
        · rw [if_neg c5] at H
          have c5b0 : (a0_3 == 0) = false := beq_eq_false_iff_ne.mpr c5
          have c5b1 : (a0_3 != 0) = true := bne_iff_ne.mpr c5
          by_cases c16 : a0_3 = 1
          · rw [if_pos c16] at H
            have c16b0 : (a0_3 == 1) = true := beq_iff_eq.mpr c16
            have c16b1 : (a0_3 != 1) = false := bne_eq_false_iff_eq.mpr c16
            clear c16
            by_cases c17 : a0_2 ≥ 0
            · rw [if_pos c17] at H
              have c17b0 : decide (0 ≤ a0_2) = true := decide_eq_true c17
              clear c17
              by_cases c18 : a0_2 ≤ 65535
              · rw [if_pos c18] at H
                have c18b0 : decide (a0_2 ≤ 65535) = true := decide_eq_true c18
                clear c18
                replace H := Option.bind_eq_some_iff.mp H
                obtain ⟨t842, A190, H⟩ := H
                replace H : (some (decide (t842 ≤ 65535))) = some r := H
                have A19 := Aside0.mk A190
                clear A190
                obtain rfl := Option.some.inj H
                go_enter Try.func74, Try.ntmps74
                go_wp2_with (first | ((with_reducible refine gate_dst (N := 1) rfl ?_); refine box_event ?hg (N := 1) ?hd (cs := #[.int .i64 a0_0, .int .i64 a0_1, .int .i64 a0_2, .int .i64 a0_3]) (t := 95) ?hr ?_; (case hd => rfl); (case hg => rfl); (case hr => first | (go_simp; done) | (go_simp; rfl)); intro gb840 hg w20 hbox hb; have n0_ := Aside0.mk (below_step (by repeat (first | (with_reducible first | exact HB.out | apply below_alloc | apply pw_below_drewN | apply below_drew1) | exact HB.out)) hb); have n1_ := Aside0.mk (hbox); have n2_ := Aside0.mk ((by rw [hg]; exact (below_size (by repeat (first | (with_reducible first | exact HB.out | apply below_alloc | apply pw_below_drewN | apply below_drew1) | exact HB.out))) : w.heap.size ≤ gb840)); have n3_ := Aside0.mk ((by rw [hg]; exact (below_size (by repeat (first | (with_reducible first | exact HB.out | apply below_alloc | apply pw_below_drewN | apply below_drew1) | exact HB.out))) : w.heap.size ≤ gb840)); clear HB; have HB := n0_; have BK840 := n1_; have GW840 := n2_; have GE840 := n3_; clear n0_ n1_ n2_ n3_; clear hb hbox hg; have hcz21_0 : w20.cell? ⟨gb840, 0, none⟩ = some (.int .i64 a0_0) := (blk_cell BK840.out 0).trans rfl; have hcz21_1 : w20.cell? ⟨gb840, 1, none⟩ = some (.int .i64 a0_1) := (blk_cell BK840.out 1).trans rfl; have hcz21_2 : w20.cell? ⟨gb840, 2, none⟩ = some (.int .i64 a0_2) := (blk_cell BK840.out 2).trans rfl; have hcz21_3 : w20.cell? ⟨gb840, 3, none⟩ = some (.int .i64 a0_3) := (blk_cell BK840.out 3).trans rfl; have hfz21_0 := blk_frozen BK840.out 0; have hfz21_1 := blk_frozen BK840.out 1; have hfz21_2 := blk_frozen BK840.out 2; have hfz21_3 := blk_frozen BK840.out 3) | (go_at_call 114; (with_reducible refine (chart_span_glyph.calls a0_0 a0_1 a0_2 a0_3 a0_1 t842 _ A19.out).mono ?_); rintro e w22 ⟨rfl, hb⟩; have n0_ := Aside0.mk (blk_below (g := gb840) (o := .cells #[.int .i64 a0_0, .int .i64 a0_1, .int .i64 a0_2, .int .i64 a0_3] 95 (0, 0)) (by (with_reducible repeat (first | refine blk_drewN ?_ _ | refine blk_drew ?_ | refine blk_alloc ?_ _)); exact BK840.out) hb); have n1_ := Aside0.mk (below_step (by repeat (first | (with_reducible first | exact HB.out | apply below_alloc | apply pw_below_drewN | apply below_drew1 | refine below_set ?_ GE840.out) | exact HB.out)) hb); clear BK840; clear HB; have BK840 := n0_; have HB := n1_; clear n0_ n1_; (try clear hb); (try clear hb2); (try clear hk); (try clear hi)))
                go_ret
                exact ⟨by first | rfl | (simp [errW_none, errW_some] <;> rfl) | (simp [*, errW_none, errW_some] <;> rfl), by repeat (first | (with_reducible first | exact HB.out | apply below_alloc | apply pw_below_drewN | apply below_drew1 | refine below_set ?_ GE840.out) | exact HB.out)⟩
              · rw [if_neg c18] at H
                have c18b0 : decide (a0_2 ≤ 65535) = false := decide_eq_false c18
                clear c18
                obtain rfl := Option.some.inj H
                go_enter Try.func74, Try.ntmps74
                go_wp2_with (first | ((with_reducible refine gate_dst (N := 1) rfl ?_); refine box_event ?hg (N := 1) ?hd (cs := #[.int .i64 a0_0, .int .i64 a0_1, .int .i64 a0_2, .int .i64 a0_3]) (t := 95) ?hr ?_; (case hd => rfl); (case hg => rfl); (case hr => first | (go_simp; done) | (go_simp; rfl)); intro gb840 hg w23 hbox hb; have n0_ := Aside0.mk (below_step (by repeat (first | (with_reducible first | exact HB.out | apply below_alloc | apply pw_below_drewN | apply below_drew1) | exact HB.out)) hb); have n1_ := Aside0.mk (hbox); have n2_ := Aside0.mk ((by rw [hg]; exact (below_size (by repeat (first | (with_reducible first | exact HB.out | apply below_alloc | apply pw_below_drewN | apply below_drew1) | exact HB.out))) : w.heap.size ≤ gb840)); have n3_ := Aside0.mk ((by rw [hg]; exact (below_size (by repeat (first | (with_reducible first | exact HB.out | apply below_alloc | apply pw_below_drewN | apply below_drew1) | exact HB.out))) : w.heap.size ≤ gb840)); clear HB; have HB := n0_; have BK840 := n1_; have GW840 := n2_; have GE840 := n3_; clear n0_ n1_ n2_ n3_; clear hb hbox hg; have hcz24_0 : w23.cell? ⟨gb840, 0, none⟩ = some (.int .i64 a0_0) := (blk_cell BK840.out 0).trans rfl; have hcz24_1 : w23.cell? ⟨gb840, 1, none⟩ = some (.int .i64 a0_1) := (blk_cell BK840.out 1).trans rfl; have hcz24_2 : w23.cell? ⟨gb840, 2, none⟩ = some (.int .i64 a0_2) := (blk_cell BK840.out 2).trans rfl; have hcz24_3 : w23.cell? ⟨gb840, 3, none⟩ = some (.int .i64 a0_3) := (blk_cell BK840.out 3).trans rfl; have hfz24_0 := blk_frozen BK840.out 0; have hfz24_1 := blk_frozen BK840.out 1; have hfz24_2 := blk_frozen BK840.out 2; have hfz24_3 := blk_frozen BK840.out 3))
                go_ret
                exact ⟨by first | rfl | (simp [errW_none, errW_some] <;> rfl) | (simp [*, errW_none, errW_some] <;> rfl), by repeat (first | (with_reducible first | exact HB.out | apply below_alloc | apply pw_below_drewN | apply below_drew1 | refine below_set ?_ GE840.out) | exact HB.out)⟩
            · rw [if_neg c17] at H
              have c17b0 : decide (0 ≤ a0_2) = false := decide_eq_false c17
              clear c17
              obtain rfl := Option.some.inj H
              go_enter Try.func74, Try.ntmps74
              go_wp2_with (first | ((with_reducible refine gate_dst (N := 1) rfl ?_); refine box_event ?hg (N := 1) ?hd (cs := #[.int .i64 a0_0, .int .i64 a0_1, .int .i64 a0_2, .int .i64 a0_3]) (t := 95) ?hr ?_; (case hd => rfl); (case hg => rfl); (case hr => first | (go_simp; done) | (go_simp; rfl)); intro gb840 hg w25 hbox hb; have n0_ := Aside0.mk (below_step (by repeat (first | (with_reducible first | exact HB.out | apply below_alloc | apply pw_below_drewN | apply below_drew1) | exact HB.out)) hb); have n1_ := Aside0.mk (hbox); have n2_ := Aside0.mk ((by rw [hg]; exact (below_size (by repeat (first | (with_reducible first | exact HB.out | apply below_alloc | apply pw_below_drewN | apply below_drew1) | exact HB.out))) : w.heap.size ≤ gb840)); have n3_ := Aside0.mk ((by rw [hg]; exact (below_size (by repeat (first | (with_reducible first | exact HB.out | apply below_alloc | apply pw_below_drewN | apply below_drew1) | exact HB.out))) : w.heap.size ≤ gb840)); clear HB; have HB := n0_; have BK840 := n1_; have GW840 := n2_; have GE840 := n3_; clear n0_ n1_ n2_ n3_; clear hb hbox hg; have hcz26_0 : w25.cell? ⟨gb840, 0, none⟩ = some (.int .i64 a0_0) := (blk_cell BK840.out 0).trans rfl; have hcz26_1 : w25.cell? ⟨gb840, 1, none⟩ = some (.int .i64 a0_1) := (blk_cell BK840.out 1).trans rfl; have hcz26_2 : w25.cell? ⟨gb840, 2, none⟩ = some (.int .i64 a0_2) := (blk_cell BK840.out 2).trans rfl; have hcz26_3 : w25.cell? ⟨gb840, 3, none⟩ = some (.int .i64 a0_3) := (blk_cell BK840.out 3).trans rfl; have hfz26_0 := blk_frozen BK840.out 0; have hfz26_1 := blk_frozen BK840.out 1; have hfz26_2 := blk_frozen BK840.out 2; have hfz26_3 := blk_frozen BK840.out 3))
              go_ret
              exact ⟨by first | rfl | (simp [errW_none, errW_some] <;> rfl) | (simp [*, errW_none, errW_some] <;> rfl), by repeat (first | (with_reducible first | exact HB.out | apply below_alloc | apply pw_below_drewN | apply below_drew1 | refine below_set ?_ GE840.out) | exact HB.out)⟩
          · rw [if_neg c16] at H
            have c16b0 : (a0_3 == 1) = false := beq_eq_false_iff_ne.mpr c16
            have c16b1 : (a0_3 != 1) = true := bne_iff_ne.mpr c16
            obtain rfl := Option.some.inj H
            go_enter Try.func74, Try.ntmps74
            go_wp2_with (first | ((with_reducible refine gate_dst (N := 1) rfl ?_); refine box_event ?hg (N := 1) ?hd (cs := #[.int .i64 a0_0, .int .i64 a0_1, .int .i64 a0_2, .int .i64 a0_3]) (t := 95) ?hr ?_; (case hd => rfl); (case hg => rfl); (case hr => first | (go_simp; done) | (go_simp; rfl)); intro gb840 hg w27 hbox hb; have n0_ := Aside0.mk (below_step (by repeat (first | (with_reducible first | exact HB.out | apply below_alloc | apply pw_below_drewN | apply below_drew1) | exact HB.out)) hb); have n1_ := Aside0.mk (hbox); have n2_ := Aside0.mk ((by rw [hg]; exact (below_size (by repeat (first | (with_reducible first | exact HB.out | apply below_alloc | apply pw_below_drewN | apply below_drew1) | exact HB.out))) : w.heap.size ≤ gb840)); have n3_ := Aside0.mk ((by rw [hg]; exact (below_size (by repeat (first | (with_reducible first | exact HB.out | apply below_alloc | apply pw_below_drewN | apply below_drew1) | exact HB.out))) : w.heap.size ≤ gb840)); clear HB; have HB := n0_; have BK840 := n1_; have GW840 := n2_; have GE840 := n3_; clear n0_ n1_ n2_ n3_; clear hb hbox hg; have hcz28_0 : w27.cell? ⟨gb840, 0, none⟩ = some (.int .i64 a0_0) := (blk_cell BK840.out 0).trans rfl; have hcz28_1 : w27.cell? ⟨gb840, 1, none⟩ = some (.int .i64 a0_1) := (blk_cell BK840.out 1).trans rfl; have hcz28_2 : w27.cell? ⟨gb840, 2, none⟩ = some (.int .i64 a0_2) := (blk_cell BK840.out 2).trans rfl; have hcz28_3 : w27.cell? ⟨gb840, 3, none⟩ = some (.int .i64 a0_3) := (blk_cell BK840.out 3).trans rfl; have hfz28_0 := blk_frozen BK840.out 0; have hfz28_1 := blk_frozen BK840.out 1; have hfz28_2 := blk_frozen BK840.out 2; have hfz28_3 := blk_frozen BK840.out 3))
            go_ret
            exact ⟨by first | rfl | (simp [errW_none, errW_some] <;> rfl) | (simp [*, errW_none, errW_some] <;> rfl), by repeat (first | (with_reducible first | exact HB.out | apply below_alloc | apply pw_below_drewN | apply below_drew1 | refine below_set ?_ GE840.out) | exact HB.out)⟩
      · rw [if_neg c4] at H
        have c4b0 : decide (a0_1 ≤ 1114111) = false := decide_eq_false c4
        clear c4
        obtain rfl := Option.some.inj H
        go_enter Try.func74, Try.ntmps74
        go_wp2_with (first | ((with_reducible refine gate_dst (N := 1) rfl ?_); refine box_event ?hg (N := 1) ?hd (cs := #[.int .i64 a0_0, .int .i64 a0_1, .int .i64 a0_2, .int .i64 a0_3]) (t := 95) ?hr ?_; (case hd => rfl); (case hg => rfl); (case hr => first | (go_simp; done) | (go_simp; rfl)); intro gb840 hg w29 hbox hb; have n0_ := Aside0.mk (below_step (by repeat (first | (with_reducible first | exact HB.out | apply below_alloc | apply pw_below_drewN | apply below_drew1) | exact HB.out)) hb); have n1_ := Aside0.mk (hbox); have n2_ := Aside0.mk ((by rw [hg]; exact (below_size (by repeat (first | (with_reducible first | exact HB.out | apply below_alloc | apply pw_below_drewN | apply below_drew1) | exact HB.out))) : w.heap.size ≤ gb840)); have n3_ := Aside0.mk ((by rw [hg]; exact (below_size (by repeat (first | (with_reducible first | exact HB.out | apply below_alloc | apply pw_below_drewN | apply below_drew1) | exact HB.out))) : w.heap.size ≤ gb840)); clear HB; have HB := n0_; have BK840 := n1_; have GW840 := n2_; have GE840 := n3_; clear n0_ n1_ n2_ n3_; clear hb hbox hg; have hcz30_0 : w29.cell? ⟨gb840, 0, none⟩ = some (.int .i64 a0_0) := (blk_cell BK840.out 0).trans rfl; have hcz30_1 : w29.cell? ⟨gb840, 1, none⟩ = some (.int .i64 a0_1) := (blk_cell BK840.out 1).trans rfl; have hcz30_2 : w29.cell? ⟨gb840, 2, none⟩ = some (.int .i64 a0_2) := (blk_cell BK840.out 2).trans rfl; have hcz30_3 : w29.cell? ⟨gb840, 3, none⟩ = some (.int .i64 a0_3) := (blk_cell BK840.out 3).trans rfl; have hfz30_0 := blk_frozen BK840.out 0; have hfz30_1 := blk_frozen BK840.out 1; have hfz30_2 := blk_frozen BK840.out 2; have hfz30_3 := blk_frozen BK840.out 3))
        go_ret
        exact ⟨by first | rfl | (simp [errW_none, errW_some] <;> rfl) | (simp [*, errW_none, errW_some] <;> rfl), by repeat (first | (with_reducible first | exact HB.out | apply below_alloc | apply pw_below_drewN | apply below_drew1 | refine below_set ?_ GE840.out) | exact HB.out)⟩
    · rw [if_neg c3] at H
      have c3b0 : decide (a0_0 ≤ a0_1) = false := decide_eq_false c3
      clear c3
      obtain rfl := Option.some.inj H
      go_enter Try.func74, Try.ntmps74
      go_wp2_with (first | ((with_reducible refine gate_dst (N := 1) rfl ?_); refine box_event ?hg (N := 1) ?hd (cs := #[.int .i64 a0_0, .int .i64 a0_1, .int .i64 a0_2, .int .i64 a0_3]) (t := 95) ?hr ?_; (case hd => rfl); (case hg => rfl); (case hr => first | (go_simp; done) | (go_simp; rfl)); intro gb840 hg w31 hbox hb; have n0_ := Aside0.mk (below_step (by repeat (first | (with_reducible first | exact HB.out | apply below_alloc | apply pw_below_drewN | apply below_drew1) | exact HB.out)) hb); have n1_ := Aside0.mk (hbox); have n2_ := Aside0.mk ((by rw [hg]; exact (below_size (by repeat (first | (with_reducible first | exact HB.out | apply below_alloc | apply pw_below_drewN | apply below_drew1) | exact HB.out))) : w.heap.size ≤ gb840)); have n3_ := Aside0.mk ((by rw [hg]; exact (below_size (by repeat (first | (with_reducible first | exact HB.out | apply below_alloc | apply pw_below_drewN | apply below_drew1) | exact HB.out))) : w.heap.size ≤ gb840)); clear HB; have HB := n0_; have BK840 := n1_; have GW840 := n2_; have GE840 := n3_; clear n0_ n1_ n2_ n3_; clear hb hbox hg; have hcz32_0 : w31.cell? ⟨gb840, 0, none⟩ = some (.int .i64 a0_0) := (blk_cell BK840.out 0).trans rfl; have hcz32_1 : w31.cell? ⟨gb840, 1, none⟩ = some (.int .i64 a0_1) := (blk_cell BK840.out 1).trans rfl; have hcz32_2 : w31.cell? ⟨gb840, 2, none⟩ = some (.int .i64 a0_2) := (blk_cell BK840.out 2).trans rfl; have hcz32_3 : w31.cell? ⟨gb840, 3, none⟩ = some (.int .i64 a0_3) := (blk_cell BK840.out 3).trans rfl; have hfz32_0 := blk_frozen BK840.out 0; have hfz32_1 := blk_frozen BK840.out 1; have hfz32_2 := blk_frozen BK840.out 2; have hfz32_3 := blk_frozen BK840.out 3))
      go_ret
      exact ⟨by first | rfl | (simp [errW_none, errW_some] <;> rfl) | (simp [*, errW_none, errW_some] <;> rfl), by repeat (first | (with_reducible first | exact HB.out | apply below_alloc | apply pw_below_drewN | apply below_drew1 | refine below_set ?_ GE840.out) | exact HB.out)⟩
  · rw [if_neg c2] at H
    have c2b0 : decide (0 ≤ a0_0) = false := decide_eq_false c2
    clear c2
    obtain rfl := Option.some.inj H
    go_enter Try.func74, Try.ntmps74
    go_wp2_with (first | ((with_reducible refine gate_dst (N := 1) rfl ?_); refine box_event ?hg (N := 1) ?hd (cs := #[.int .i64 a0_0, .int .i64 a0_1, .int .i64 a0_2, .int .i64 a0_3]) (t := 95) ?hr ?_; (case hd => rfl); (case hg => rfl); (case hr => first | (go_simp; done) | (go_simp; rfl)); intro gb840 hg w33 hbox hb; have n0_ := Aside0.mk (below_step (by repeat (first | (with_reducible first | exact HB.out | apply below_alloc | apply pw_below_drewN | apply below_drew1) | exact HB.out)) hb); have n1_ := Aside0.mk (hbox); have n2_ := Aside0.mk ((by rw [hg]; exact (below_size (by repeat (first | (with_reducible first | exact HB.out | apply below_alloc | apply pw_below_drewN | apply below_drew1) | exact HB.out))) : w.heap.size ≤ gb840)); have n3_ := Aside0.mk ((by rw [hg]; exact (below_size (by repeat (first | (with_reducible first | exact HB.out | apply below_alloc | apply pw_below_drewN | apply below_drew1) | exact HB.out))) : w.heap.size ≤ gb840)); clear HB; have HB := n0_; have BK840 := n1_; have GW840 := n2_; have GE840 := n3_; clear n0_ n1_ n2_ n3_; clear hb hbox hg; have hcz34_0 : w33.cell? ⟨gb840, 0, none⟩ = some (.int .i64 a0_0) := (blk_cell BK840.out 0).trans rfl; have hcz34_1 : w33.cell? ⟨gb840, 1, none⟩ = some (.int .i64 a0_1) := (blk_cell BK840.out 1).trans rfl; have hcz34_2 : w33.cell? ⟨gb840, 2, none⟩ = some (.int .i64 a0_2) := (blk_cell BK840.out 2).trans rfl; have hcz34_3 : w33.cell? ⟨gb840, 3, none⟩ = some (.int .i64 a0_3) := (blk_cell BK840.out 3).trans rfl; have hfz34_0 := blk_frozen BK840.out 0; have hfz34_1 := blk_frozen BK840.out 1; have hfz34_2 := blk_frozen BK840.out 2; have hfz34_3 := blk_frozen BK840.out 3))
    go_ret
    exact ⟨by first | rfl | (simp [errW_none, errW_some] <;> rfl) | (simp [*, errW_none, errW_some] <;> rfl), by repeat (first | (with_reducible first | exact HB.out | apply below_alloc | apply pw_below_drewN | apply below_drew1 | refine below_set ?_ GE840.out) | exact HB.out)⟩
end Go.Proofs.Ytgifenlfklbdgaa.P
end
