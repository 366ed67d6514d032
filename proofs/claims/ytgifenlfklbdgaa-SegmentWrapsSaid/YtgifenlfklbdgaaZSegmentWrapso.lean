/- A part of the proof of the law SegmentWraps: the words, contracts and plain facts that it needs, no more. Each says its own condition. -/
import Derived.Test.YtgifenlfklbdgaaZSegmentWrapsg
namespace Go.Proofs.Ytgifenlfklbdgaa.P
open Go.RowKit Go.Proofs.YtgifenlfklbdgaaW.PrintWords Go.Proofs.YtgifenlfklbdgaaW.PrintLast Go.Proofs.YtgifenlfklbdgaaW.PrintMore
attribute [local go_sem] max2_int min2_int max_two min_two max_three min_three max_four min_four
set_option linter.unusedVariables false
set_option linter.unusedSimpArgs false
def chart_look_1.f (a0_0 : Int) (a0_1 : Int) (a0_2 : Int) (a0_3 : Int) (a1 : Int) : Option (Int) := if a0_1 < a1 then (some (-1)) else (if a0_0 > a1 then (some 1) else (some 0))
set_option maxHeartbeats 8000000 in
set_option maxRecDepth 100000 in
theorem chart_look_1.calls (a0_0 : Int) (a0_1 : Int) (a0_2 : Int) (a0_3 : Int) (a1 : Int) (r : Int) (w : World) (h : chart_look_1.f a0_0 a0_1 a0_2 a0_3 a1 = some r) :
    Calls Try.prog 113 #[.agg #[.int .i64 a0_0, .int .i64 a0_1, .int .i64 a0_2, .int .i64 a0_3], .int .i64 a1] w fun e w' => e = .returned (.int .i64 r) ∧ Below w.heap.size w w' := by
  have hu42 := Try.underlying42
  have HB := Aside0.mk (Below.refl w.heap.size w)
  have H : (if a0_1 < a1 then (some (-1)) else (if a0_0 > a1 then (some 1) else (some 0))) = some r := h
  clear h
  by_cases c3 : a0_1 < a1
  · rw [if_pos c3] at H
    have c3b0 : decide (a0_1 < a1) = true := decide_eq_true c3
    clear c3
    obtain rfl := Option.some.inj H
    go_enter Try.func113, Try.ntmps113
    go_wp2_with (first | ((with_reducible refine gate_dst (N := 2) rfl ?_); refine box_event ?hg (N := 2) ?hd (cs := #[.int .i64 a0_0, .int .i64 a0_1, .int .i64 a0_2, .int .i64 a0_3]) (t := 42) ?hr ?_; (case hd => rfl); (case hg => rfl); (case hr => first | (go_simp; done) | (go_simp; rfl)); intro gb847 hg w4 hbox hb; have n0_ := Aside0.mk (below_step (by repeat (first | (with_reducible first | exact HB.out | apply below_alloc | apply pw_below_drewN | apply below_drew1) | exact HB.out)) hb); have n1_ := Aside0.mk (hbox); have n2_ := Aside0.mk ((by rw [hg]; exact (below_size (by repeat (first | (with_reducible first | exact HB.out | apply below_alloc | apply pw_below_drewN | apply below_drew1) | exact HB.out))) : w.heap.size ≤ gb847)); have n3_ := Aside0.mk ((by rw [hg]; exact (below_size (by repeat (first | (with_reducible first | exact HB.out | apply below_alloc | apply pw_below_drewN | apply below_drew1) | exact HB.out))) : w.heap.size ≤ gb847)); clear HB; have HB := n0_; have BK847 := n1_; have GW847 := n2_; have GE847 := n3_; clear n0_ n1_ n2_ n3_; clear hb hbox hg; have hcz5_0 : w4.cell? ⟨gb847, 0, none⟩ = some (.int .i64 a0_0) := (blk_cell BK847.out 0).trans rfl; have hcz5_1 : w4.cell? ⟨gb847, 1, none⟩ = some (.int .i64 a0_1) := (blk_cell BK847.out 1).trans rfl; have hcz5_2 : w4.cell? ⟨gb847, 2, none⟩ = some (.int .i64 a0_2) := (blk_cell BK847.out 2).trans rfl; have hcz5_3 : w4.cell? ⟨gb847, 3, none⟩ = some (.int .i64 a0_3) := (blk_cell BK847.out 3).trans rfl; have hfz5_0 := blk_frozen BK847.out 0; have hfz5_1 := blk_frozen BK847.out 1; have hfz5_2 := blk_frozen BK847.out 2; have hfz5_3 := blk_frozen BK847.out 3))
    go_ret
    exact ⟨by first | rfl | (simp [errW_none, errW_some] <;> rfl) | (simp [*, errW_none, errW_some] <;> rfl), by repeat (first | (with_reducible first | exact HB.out | apply below_alloc | apply pw_below_drewN | apply below_drew1 | refine below_set ?_ GE847.out) | exact HB.out)⟩
  · rw [if_neg c3] at H
    have c3b0 : decide (a0_1 < a1) = false := decide_eq_false c3
    clear c3
    by_cases c6 : a0_0 > a1
    · rw [if_pos c6] at H
      have c6b0 : decide (a1 < a0_0) = true := decide_eq_true c6
      clear c6
      obtain rfl := Option.some.inj H
      go_enter Try.func113, Try.ntmps113
      go_wp2_with (first | ((with_reducible refine gate_dst (N := 2) rfl ?_); refine box_event ?hg (N := 2) ?hd (cs := #[.int .i64 a0_0, .int .i64 a0_1, .int .i64 a0_2, .int .i64 a0_3]) (t := 42) ?hr ?_; (case hd => rfl); (case hg => rfl); (case hr => first | (go_simp; done) | (go_simp; rfl)); intro gb847 hg w7 hbox hb; have n0_ := Aside0.mk (below_step (by repeat (first | (with_reducible first | exact HB.out | apply below_alloc | apply pw_below_drewN | apply below_drew1) | exact HB.out)) hb); have n1_ := Aside0.mk (hbox); have n2_ := Aside0.mk ((by rw [hg]; exact (below_size (by repeat (first | (with_reducible first | exact HB.out | apply below_alloc | apply pw_below_drewN | apply below_drew1) | exact HB.out))) : w.heap.size ≤ gb847)); have n3_ := Aside0.mk ((by rw [hg]; exact (below_size (by repeat (first | (with_reducible first | exact HB.out | apply below_alloc | apply pw_below_drewN | apply below_drew1) | exact HB.out))) : w.heap.size ≤ gb847)); clear HB; have HB := n0_; have BK847 := n1_; have GW847 := n2_; have GE847 := n3_; clear n0_ n1_ n2_ n3_; clear hb hbox hg; have hcz8_0 : w7.cell? ⟨gb847, 0, none⟩ = some (.int .i64 a0_0) := (blk_cell BK847.out 0).trans rfl; have hcz8_1 : w7.cell? ⟨gb847, 1, none⟩ = some (.int .i64 a0_1) := (blk_cell BK847.out 1).trans rfl; have hcz8_2 : w7.cell? ⟨gb847, 2, none⟩ = some (.int .i64 a0_2) := (blk_cell BK847.out 2).trans rfl; have hcz8_3 : w7.cell? ⟨gb847, 3, none⟩ = some (.int .i64 a0_3) := (blk_cell BK847.out 3).trans rfl; have hfz8_0 := blk_frozen BK847.out 0; have hfz8_1 := blk_frozen BK847.out 1; have hfz8_2 := blk_frozen BK847.out 2; have hfz8_3 := blk_frozen BK847.out 3))
      go_ret
      exact ⟨by first | rfl | (simp [errW_none, errW_some] <;> rfl) | (simp [*, errW_none, errW_some] <;> rfl), by repeat (first | (with_reducible first | exact HB.out | apply below_alloc | apply pw_below_drewN | apply below_drew1 | refine below_set ?_ GE847.out) | exact HB.out)⟩
    · rw [if_neg c6] at H
      have c6b0 : decide (a1 < a0_0) = false := decide_eq_false c6
      clear c6
      obtain rfl := Option.some.inj H
      go_enter Try.func113, Try.ntmps113
      go_wp2_with (first | ((with_reducible refine gate_dst (N := 2) rfl ?_); refine box_event ?hg (N := 2) ?hd (cs := #[.int .i64 a0_0, .int .i64 a0_1, .int .i64 a0_2, .int .i64 a0_3]) (t := 42) ?hr ?_; (case hd => rfl); (case hg => rfl); (case hr => first | (go_simp; done) | (go_simp; rfl)); intro gb847 hg w9 hbox hb; have n0_ := Aside0.mk (below_step (by repeat (first | (with_reducible first | exact HB.out | apply below_alloc | apply pw_below_drewN | apply below_drew1) | exact HB.out)) hb); have n1_ := Aside0.mk (hbox); have n2_ := Aside0.mk ((by rw [hg]; exact (below_size (by repeat (first | (with_reducible first | exact HB.out | apply below_alloc | apply pw_below_drewN | apply below_drew1) | exact HB.out))) : w.heap.size ≤ gb847)); have n3_ := Aside0.mk ((by rw [hg]; exact (below_size (by repeat (first | (with_reducible first | exact HB.out | apply below_alloc | apply pw_below_drewN | apply below_drew1) | exact HB.out))) : w.heap.size ≤ gb847)); clear HB; have HB := n0_; have BK847 := n1_; have GW847 := n2_; have GE847 := n3_; clear n0_ n1_ n2_ n3_; clear hb hbox hg; have hcz10_0 : w9.cell? ⟨gb847, 0, none⟩ = some (.int .i64 a0_0) := (blk_cell BK847.out 0).trans rfl; have hcz10_1 : w9.cell? ⟨gb847, 1, none⟩ = some (.int .i64 a0_1) := (blk_cell BK847.out 1).trans rfl; have hcz10_2 : w9.cell? ⟨gb847, 2, none⟩ = some (.int .i64 a0_2) := (blk_cell BK847.out 2).trans rfl; have hcz10_3 : w9.cell? ⟨gb847, 3, none⟩ = some (.int .i64 a0_3) := (blk_cell BK847.out 3).trans rfl; have hfz10_0 := blk_frozen BK847.out 0; have hfz10_1 := blk_frozen BK847.out 1; have hfz10_2 := blk_frozen BK847.out 2; have hfz10_3 := blk_frozen BK847.out 3))
      go_ret
      exact ⟨by first | rfl | (simp [errW_none, errW_some] <;> rfl) | (simp [*, errW_none, errW_some] <;> rfl), by repeat (first | (with_reducible first | exact HB.out | apply below_alloc | apply pw_below_drewN | apply below_drew1 | refine below_set ?_ GE847.out) | exact HB.out)⟩
end Go.Proofs.Ytgifenlfklbdgaa.P
