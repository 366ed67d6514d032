/- A part of the proof of the law GlyfDeep: the words, contracts and plain facts that it needs, no more. Each says its own condition. -/
import Derived.Test.YtjmliafplgjkhaaZGlyfDeepi
import Derived.Test.YtjmliafplgjkhaaZGlyfDeepo
import Derived.Test.YtjmliafplgjkhaaZGlyfDeepp
import Derived.Test.YtjmliafplgjkhaaZGlyfDeepw
import Derived.Test.YtjmliafplgjkhaaZGlyfDeepl
import Derived.Test.YtjmliafplgjkhaaZGlyfDeepr
import Derived.Test.YtjmliafplgjkhaaZGlyfDeepq
section
namespace Go.Proofs.Ytjmliafplgjkhaa.P
open Go.RowKit Go.Proofs.YtjmliafplgjkhaaW.PrintWords Go.Proofs.YtjmliafplgjkhaaW.PrintLast Go.Proofs.YtjmliafplgjkhaaW.PrintMore
attribute [local go_sem] max2_int min2_int max_two min_two max_three min_three max_four min_four
set_option linter.unusedVariables false
set_option linter.unusedSimpArgs false
def vinculumlaw07_GlyfDeep.l0 : Nat → List (S30) → Int → Int → Int → Int → Int → Int → Int → Bool → Option (Bool)
  | 0, _, _, _, _, _, _, _, _, _ => none
  | k + 1, x1, x2, x7, x263000, x263001, x263002, x263003, x263004, x263005 => if x7 < (x1.length : Int) then (if 0 ≤ x7 then ((glyf_Is.f ((rd_T30 x1 x7).f0) ((rd_T30 x1 x7).f1) ((rd_T30 x1 x7).f2) ((rd_T30 x1 x7).f3) ((rd_T30 x1 x7).f4)).bind fun t264 => (if t264 = true then (vinculumlaw07_GlyfDeep.l0 k x1 x2 (wrap64 (x7 + 1)) x263000 x263001 x263002 x263003 x263004 x263005) else ((vinculumlaw07_drawn.f k).bind fun t265 => (some t265)))) else (none)) else ((glyf_High.f k x263000 x263001 x263002 x263003 x263004 x263005 x1 x2).bind fun bt266 => ((glyf_High.f k x263000 x263001 x263002 x263003 x263004 x263005 ([] : List (S30)) x2).bind fun bt269 => (if bt266.2.2 = 0 then ((vinculumlaw07_drawn.f k).bind fun t272 => (if t272 = true then (if bt269.2.2 = 0 then (if bt269.1 = x263003 then (if bt269.2.1 = (wrap64 (-x263004)) then (if bt266.1 ≤ 32768 then (if bt266.2.1 ≤ 32768 then (if (x1.length : Int) = 0 then (some true) else (some (decide ((wrap64 (bt266.1 + bt266.2.1)) ≥ 0)))) else (some false)) else (some false)) else (some false)) else (some false)) else (some false)) else (some false))) else ((vinculumlaw07_drawn.f k).bind fun t273 => (if t273 = true then (if bt266.1 = 0 then (if bt266.2.1 = 0 then ((head_Is.f x263000 x263001 x263002 x263003 x263004 x263005).bind fun t274 => (if t274 = true then (if x2 < 0 then (some true) else (if x2 ≥ x263001 then (some true) else (some (decide (x2 ≥ (x1.length : Int)))))) else (some true))) else (some false)) else (some false)) else (some false))))))
def vinculumlaw07_GlyfDeep.f (k : Nat) (a0_0 : Int) (a0_1 : Int) (a0_2 : Int) (a0_3 : Int) (a0_4 : Int) (a0_5 : Bool) (l1 : List (S30)) (a2 : Int) : Option (Bool) := if (l1.length : Int) > 300 then (some true) else (vinculumlaw07_GlyfDeep.l0 k l1 a2 0 a0_0 a0_1 a0_2 a0_3 a0_4 a0_5)
set_option maxHeartbeats 8000000 in
set_option maxRecDepth 100000 in
theorem vinculumlaw07_GlyfDeep.calls (k : Nat) (a0_0 : Int) (a0_1 : Int) (a0_2 : Int) (a0_3 : Int) (a0_4 : Int) (a0_5 : Bool) (A1 : Option Addr) (c1 : Nat) (l1 : List (S30)) (a2 : Int) (r : Bool) (w : World) (hr1 : Kd.C k30 w A1 l1.length l1) (hc1 : l1.length ≤ c1) (h : vinculumlaw07_GlyfDeep.f k a0_0 a0_1 a0_2 a0_3 a0_4 a0_5 l1 a2 = some r) :
    Calls Try.prog 6 #[.agg #[.int .i64 a0_0, .int .i64 a0_1, .int .i64 a0_2, .int .i64 a0_3, .int .i64 a0_4, .bool a0_5], .slice A1 l1.length c1, .int .i64 a2] w fun e w' => e = .returned (.bool r) ∧ Below w.heap.size w w' := by
  have hu37 := Try.underlying37
  have hu30 := Try.underlying30
  have HR1 := Aside0.mk hr1
  have HC1 := Aside0.mk hc1
  clear hr1 hc1
  have HB := Aside0.mk (Below.refl w.heap.size w)
  have H : (if (l1.length : Int) > 300 then (some true) else (vinculumlaw07_GlyfDeep.l0 k l1 a2 0 a0_0 a0_1 a0_2 a0_3 a0_4 a0_5)) = some r := h
  clear h
  by_cases c4 : (l1.length : Int) > 300
  · rw [if_pos c4] at H
    have c4b0 : decide (300 < (l1.length : Int)) = true := decide_eq_true c4
    have c4b1 : decide (300 < l1.length) = true := decide_eq_true (by omega)
    clear c4
    obtain rfl := Option.some.inj H
    go_enter Try.func6, Try.ntmps6
    go_wp2_with (first | ((with_reducible refine gate_dst (N := 3) rfl ?_); (try (refine gate_guard (by rfl) ?_; dsimp only)); refine box_event ?hg (N := 3) ?hd (cs := #[.int .i64 a0_0, .int .i64 a0_1, .int .i64 a0_2, .int .i64 a0_3, .int .i64 a0_4, .bool a0_5]) (t := 37) ?hr ?_; (case hd => rfl); (case hg => rfl); (case hr => first | (go_simp; done) | (go_simp; rfl)); intro gb262 hg w5 hbox hb; have n0_ := Aside0.mk (below_step (by repeat (first | (with_reducible first | exact HB.out | apply below_alloc | apply pw_below_drewN | apply below_drew1) | exact HB.out)) hb); have n1_ := Aside0.mk (hbox); have n2_ := Aside0.mk ((by rw [hg]; exact (below_size (by repeat (first | (with_reducible first | exact HB.out | apply below_alloc | apply pw_below_drewN | apply below_drew1) | exact HB.out))) : w.heap.size ≤ gb262)); have n3_ := Aside0.mk ((by rw [hg]; exact (below_size (by repeat (first | (with_reducible first | exact HB.out | apply below_alloc | apply pw_below_drewN | apply below_drew1) | exact HB.out))) : w.heap.size ≤ gb262)); clear HB; have HB := n0_; have BK262 := n1_; have GW262 := n2_; have GE262 := n3_; clear n0_ n1_ n2_ n3_; clear hb hbox hg))
    go_ret
    exact ⟨by first | rfl | (simp [errW_none, errW_some] <;> rfl) | (simp [*, errW_none, errW_some] <;> rfl), by repeat (first | (with_reducible first | exact HB.out | apply below_alloc | apply pw_below_drewN | apply below_drew1 | refine below_set ?_ GE262.out) | exact HB.out)⟩
  · rw [if_neg c4] at H
    have c4b0 : decide (300 < (l1.length : Int)) = false := decide_eq_false c4
    have c4b1 : decide (300 < l1.length) = false := decide_eq_false (by omega)
    clear c4
    have H' := Aside0.mk H
    clear H
    go_enter Try.func6, Try.ntmps6
    go_wp2_with (first | ((with_reducible refine gate_dst (N := 3) rfl ?_); (try (refine gate_guard (by rfl) ?_; dsimp only)); refine box_event ?hg (N := 3) ?hd (cs := #[.int .i64 a0_0, .int .i64 a0_1, .int .i64 a0_2, .int .i64 a0_3, .int .i64 a0_4, .bool a0_5]) (t := 37) ?hr ?_; (case hd => rfl); (case hg => rfl); (case hr => first | (go_simp; done) | (go_simp; rfl)); intro gb262 hg w6 hbox hb; have n0_ := Aside0.mk (below_step (by repeat (first | (with_reducible first | exact HB.out | apply below_alloc | apply pw_below_drewN | apply below_drew1) | exact HB.out)) hb); have n1_ := Aside0.mk (hbox); have n2_ := Aside0.mk ((by rw [hg]; exact (below_size (by repeat (first | (with_reducible first | exact HB.out | apply below_alloc | apply pw_below_drewN | apply below_drew1) | exact HB.out))) : w.heap.size ≤ gb262)); have n3_ := Aside0.mk ((by rw [hg]; exact (below_size (by repeat (first | (with_reducible first | exact HB.out | apply below_alloc | apply pw_below_drewN | apply below_drew1) | exact HB.out))) : w.heap.size ≤ gb262)); clear HB; have HB := n0_; have BK262 := n1_; have GW262 := n2_; have GE262 := n3_; clear n0_ n1_ n2_ n3_; clear hb hbox hg))
    go_loopg [7] k (fun kq v7 w' => ∃ (x7_1 : Int), v7 = .int .i64 x7_1 ∧ Aside0 (vinculumlaw07_GlyfDeep.l0 kq l1 a2 x7_1 a0_0 a0_1 a0_2 a0_3 a0_4 a0_5 = some r) ∧ Aside0 (kq ≤ k) ∧ Aside0 (w'.heap[gb262]? = some (.cells #[.int .i64 a0_0, .int .i64 a0_1, .int .i64 a0_2, .int .i64 a0_3, .int .i64 a0_4, .bool a0_5] 37 (0, 0))) ∧ Aside0 (Below w.heap.size w w'))
    case atStart => exact ⟨(0), (by first | rfl | (simp; done) | (simp [*]; done)), H', ⟨Nat.le_refl _⟩, ⟨by (with_reducible repeat (first | refine blk_drewN ?_ _ | refine blk_drew ?_ | refine blk_alloc ?_ _)); exact BK262.out⟩, ⟨by repeat (first | (with_reducible first | exact HB.out | apply below_alloc | apply pw_below_drewN | apply below_drew1 | refine below_set ?_ GE262.out) | exact HB.out)⟩⟩
    case round =>
      clear H'
      try clear c1
      try clear p2
      try clear c4
      try clear c4b0
      try clear c4b1
      try clear c6
      obtain ⟨x7_1, rfl, HA, HK1, BK262, HB⟩ := hrel
      cases gk with
      | zero => exact absurd HA.out (by simp [vinculumlaw07_GlyfDeep.l0])
      | succ k1 =>
        have H := HA.out
        clear HA
        simp only [vinculumlaw07_GlyfDeep.l0] at H
        by_cases c7 : x7_1 < (l1.length : Int)
        · rw [if_pos c7] at H
          have c7b0 : decide (x7_1 < (l1.length : Int)) = true := decide_eq_true c7
          clear c7
          by_cases c8 : 0 ≤ x7_1
          · rw [if_pos c8] at H
            have c8b0 : decide (0 ≤ x7_1) = true := decide_eq_true c8
            clear c8
            replace H := Option.bind_eq_some_iff.mp H
            obtain ⟨t264, A90, H⟩ := H
            replace H : (if t264 = true then (vinculumlaw07_GlyfDeep.l0 k1 l1 a2 (wrap64 (x7_1 + 1)) a0_0 a0_1 a0_2 a0_3 a0_4 a0_5) else ((vinculumlaw07_drawn.f k1).bind fun t265 => (some t265))) = some r := H
            have A9 := Aside0.mk A90
            clear A90
            by_cases c10 : t264 = true
            · subst c10
              have H1 : (vinculumlaw07_GlyfDeep.l0 k1 l1 a2 (wrap64 (x7_1 + 1)) a0_0 a0_1 a0_2 a0_3 a0_4 a0_5) = some r := by rw [if_pos rfl] at H; exact H
              clear H
              have H := H1
              clear H1
              have H' := Aside0.mk H
              clear H
              have p263 : 0 ≤ (x7_1 : Int) := of_decide_eq_true (by first | (with_reducible assumption) | assumption)
              have q263 : x7_1 < (l1.length : Int) := of_decide_eq_true (by first | (with_reducible assumption) | assumption)
              obtain ⟨ad263, e263, hx263_0, hx263_1, hx263_2, hx263_3, hx263_4⟩ := at_T30 HR1.out x7_1 p263 q263
              cases e263
              replace hx263_0 := (HB.out.cell (World.block_lt_of_cell? w _ hx263_0)).trans hx263_0
              replace hx263_1 := (HB.out.cell (World.block_lt_of_cell? w _ hx263_1)).trans hx263_1
              replace hx263_2 := (HB.out.cell (World.block_lt_of_cell? w _ hx263_2)).trans hx263_2
              replace hx263_3 := (HB.out.cell (World.block_lt_of_cell? w _ hx263_3)).trans hx263_3
              replace hx263_4 := (HB.out.cell (World.block_lt_of_cell? w _ hx263_4)).trans hx263_4
              replace p263 := eq_true p263
              replace q263 := eq_true q263
              go_wp2_with (first | ((with_reducible refine gate_callee (f := 11) rfl ?_); refine goesL_ (some 27) rfl rfl Try.func11 (by kernel_rfl) rfl #[.agg #[.bool ((rd_T30 l1 x7_1).f0), .int .i64 ((rd_T30 l1 x7_1).f1), .int .i64 ((rd_T30 l1 x7_1).f2), .int .i64 ((rd_T30 l1 x7_1).f3), .int .i64 ((rd_T30 l1 x7_1).f4)]] rfl (by (try simp only [List.map_toArray, List.map_cons, List.map_nil]); first | done | rfl | (simp only [List.length_drop, List.length_take]; rfl)) ?_; (with_reducible refine (glyf_Is.calls ((rd_T30 l1 x7_1).f0) ((rd_T30 l1 x7_1).f1) ((rd_T30 l1 x7_1).f2) ((rd_T30 l1 x7_1).f3) ((rd_T30 l1 x7_1).f4) true _ A9.out).mono ?_); rintro e w11 ⟨rfl, hb⟩; refine ⟨_, rfl, ?_⟩; have n0_ := Aside0.mk (blk_below (g := gb262) (o := .cells #[.int .i64 a0_0, .int .i64 a0_1, .int .i64 a0_2, .int .i64 a0_3, .int .i64 a0_4, .bool a0_5] 37 (0, 0)) (by (with_reducible repeat (first | refine blk_drewN ?_ _ | refine blk_drew ?_ | refine blk_alloc ?_ _)); exact BK262.out) hb); have n1_ := Aside0.mk (below_step (by repeat (first | (with_reducible first | exact HB.out | apply below_alloc | apply pw_below_drewN | apply below_drew1 | refine below_set ?_ GE262.out) | exact HB.out)) hb); clear BK262; clear HB; have BK262 := n0_; have HB := n1_; clear n0_ n1_; (try clear hb); (try clear hb2); (try clear hk); (try clear hi)))
              go_roundg k1
              case measure => have := HK1.out; omega
              case rel => exact ⟨(wrap64 (x7_1 + 1)), (by first | rfl | (simp; done) | (simp [*]; done)), H', ⟨by have := HK1.out; omega⟩, ⟨by (with_reducible repeat (first | refine blk_drewN ?_ _ | refine blk_drew ?_ | refine blk_alloc ?_ _)); exact BK262.out⟩, ⟨by repeat (first | (with_reducible first | exact HB.out | apply below_alloc | apply pw_below_drewN | apply below_drew1 | refine below_set ?_ GE262.out) | exact HB.out)⟩⟩
            · replace c10 := Bool.eq_false_iff.mpr c10
              subst c10
              have H1 : ((vinculumlaw07_drawn.f k1).bind fun t265 => (some t265)) = some r := by rw [if_neg (show ¬ (false = true) by decide)] at H; exact H
              clear H
              have H := H1
              clear H1
              replace H := Option.bind_eq_some_iff.mp H
              obtain ⟨t265, A120, H⟩ := H
              replace H : (some t265) = some r := H
              have A12 := Aside0.mk A120
              clear A120
              obtain rfl := Option.some.inj H
              have p263 : 0 ≤ (x7_1 : Int) := of_decide_eq_true (by first | (with_reducible assumption) | assumption)
              have q263 : x7_1 < (l1.length : Int) := of_decide_eq_true (by first | (with_reducible assumption) | assumption)
              obtain ⟨ad263, e263, hx263_0, hx263_1, hx263_2, hx263_3, hx263_4⟩ := at_T30 HR1.out x7_1 p263 q263
              cases e263
              replace hx263_0 := (HB.out.cell (World.block_lt_of_cell? w _ hx263_0)).trans hx263_0
              replace hx263_1 := (HB.out.cell (World.block_lt_of_cell? w _ hx263_1)).trans hx263_1
              replace hx263_2 := (HB.out.cell (World.block_lt_of_cell? w _ hx263_2)).trans hx263_2
              replace hx263_3 := (HB.out.cell (World.block_lt_of_cell? w _ hx263_3)).trans hx263_3
              replace hx263_4 := (HB.out.cell (World.block_lt_of_cell? w _ hx263_4)).trans hx263_4
              replace p263 := eq_true p263
              replace q263 := eq_true q263
              go_wp2_with (first | ((with_reducible refine gate_callee (f := 11) rfl ?_); refine goesL_ (some 27) rfl rfl Try.func11 (by kernel_rfl) rfl #[.agg #[.bool ((rd_T30 l1 x7_1).f0), .int .i64 ((rd_T30 l1 x7_1).f1), .int .i64 ((rd_T30 l1 x7_1).f2), .int .i64 ((rd_T30 l1 x7_1).f3), .int .i64 ((rd_T30 l1 x7_1).f4)]] rfl (by (try simp only [List.map_toArray, List.map_cons, List.map_nil]); first | done | rfl | (simp only [List.length_drop, List.length_take]; rfl)) ?_; (with_reducible refine (glyf_Is.calls ((rd_T30 l1 x7_1).f0) ((rd_T30 l1 x7_1).f1) ((rd_T30 l1 x7_1).f2) ((rd_T30 l1 x7_1).f3) ((rd_T30 l1 x7_1).f4) false _ A9.out).mono ?_); rintro e w13 ⟨rfl, hb⟩; refine ⟨_, rfl, ?_⟩; have n0_ := Aside0.mk (blk_below (g := gb262) (o := .cells #[.int .i64 a0_0, .int .i64 a0_1, .int .i64 a0_2, .int .i64 a0_3, .int .i64 a0_4, .bool a0_5] 37 (0, 0)) (by (with_reducible repeat (first | refine blk_drewN ?_ _ | refine blk_drew ?_ | refine blk_alloc ?_ _)); exact BK262.out) hb); have n1_ := Aside0.mk (below_step (by repeat (first | (with_reducible first | exact HB.out | apply below_alloc | apply pw_below_drewN | apply below_drew1 | refine below_set ?_ GE262.out) | exact HB.out)) hb); clear BK262; clear HB; have BK262 := n0_; have HB := n1_; clear n0_ n1_; (try clear hb); (try clear hb2); (try clear hk); (try clear hi)) | ((with_reducible refine gate_callee (f := 13) rfl ?_); refine goesL_ (some 29) rfl rfl Try.func13 (by kernel_rfl) rfl #[] rfl (by (try simp only [List.map_toArray, List.map_cons, List.map_nil]); first | done | rfl | (simp only [List.length_drop, List.length_take]; rfl)) ?_; (with_reducible refine (vinculumlaw07_drawn.calls k1  t265 _ A12.out).mono ?_); rintro e w14 ⟨rfl, hb⟩; refine ⟨_, rfl, ?_⟩; have n0_ := Aside0.mk (blk_below (g := gb262) (o := .cells #[.int .i64 a0_0, .int .i64 a0_1, .int .i64 a0_2, .int .i64 a0_3, .int .i64 a0_4, .bool a0_5] 37 (0, 0)) (by (with_reducible repeat (first | refine blk_drewN ?_ _ | refine blk_drew ?_ | refine blk_alloc ?_ _)); exact BK262.out) hb); have n1_ := Aside0.mk (below_step (by repeat (first | (with_reducible first | exact HB.out | apply below_alloc | apply pw_below_drewN | apply below_drew1 | refine below_set ?_ GE262.out) | exact HB.out)) hb); clear BK262; clear HB; have BK262 := n0_; have HB := n1_; clear n0_ n1_; (try clear hb); (try clear hb2); (try clear hk); (try clear hi)))
              go_ret
              exact ⟨by first | rfl | (simp [errW_none, errW_some] <;> rfl) | (simp [*, errW_none, errW_some] <;> rfl), by repeat (first | (with_reducible first | exact HB.out | apply below_alloc | apply pw_below_drewN | apply below_drew1 | refine below_set ?_ GE262.out) | exact HB.out)⟩
          · rw [if_neg c8] at H
            exact absurd H (by simp)
        · rw [if_neg c7] at H
          have c7b0 : decide (x7_1 < (l1.length : Int)) = false := decide_eq_false c7
          clear c7
          replace H := Option.bind_eq_some_iff.mp H
          obtain ⟨⟨t266, t267, t268⟩, A150, H⟩ := H
          replace H : ((glyf_High.f k1 a0_0 a0_1 a0_2 a0_3 a0_4 a0_5 ([] : List (S30)) a2).bind fun bt269 => (if t268 = 0 then ((vinculumlaw07_drawn.f k1).bind fun t272 => (if t272 = true then (if bt269.2.2 = 0 then (if bt269.1 = a0_3 then (if bt269.2.1 = (wrap64 (-a0_4)) then (if t266 ≤ 32768 then (if t267 ≤ 32768 then (if (l1.length : Int) = 0 then (some true) else (some (decide ((wrap64 (t266 + t267)) ≥ 0)))) else (some false)) else (some false)) else (some false)) else (some false)) else (some false)) else (some false))) else ((vinculumlaw07_drawn.f k1).bind fun t273 => (if t273 = true then (if t266 = 0 then (if t267 = 0 then ((head_Is.f a0_0 a0_1 a0_2 a0_3 a0_4 a0_5).bind fun t274 => (if t274 = true then (if a2 < 0 then (some true) else (if a2 ≥ a0_1 then (some true) else (some (decide (a2 ≥ (l1.length : Int)))))) else (some true))) else (some false)) else (some false)) else (some false))))) = some r := H
          have A15 := Aside0.mk A150
          clear A150
          replace H := Option.bind_eq_some_iff.mp H
          obtain ⟨⟨t269, t270, t271⟩, A160, H⟩ := H
          replace H : (if t268 = 0 then ((vinculumlaw07_drawn.f k1).bind fun t272 => (if t272 = true then (if t271 = 0 then (if t269 = a0_3 then (if t270 = (wrap64 (-a0_4)) then (if t266 ≤ 32768 then (if t267 ≤ 32768 then (if (l1.length : Int) = 0 then (some true) else (some (decide ((wrap64 (t266 + t267)) ≥ 0)))) else (some false)) else (some false)) else (some false)) else (some false)) else (some false)) else (some false))) else ((vinculumlaw07_drawn.f k1).bind fun t273 => (if t273 = true then (if t266 = 0 then (if t267 = 0 then ((head_Is.f a0_0 a0_1 a0_2 a0_3 a0_4 a0_5).bind fun t274 => (if t274 = true then (if a2 < 0 then (some true) else (if a2 ≥ a0_1 then (some true) else (some (decide (a2 ≥ (l1.length : Int)))))) else (some true))) else (some false)) else (some false)) else (some false)))) = some r := H
          have A16 := Aside0.mk A160
          clear A160
          by_cases c17 : t268 = 0
          · rw [if_pos c17] at H
            have c17b0 : (t268 == 0) = true := beq_iff_eq.mpr c17
            have c17b1 : (t268 != 0) = false := bne_eq_false_iff_eq.mpr c17
            clear c17
            replace H := Option.bind_eq_some_iff.mp H
            obtain ⟨t272, A180, H⟩ := H
            replace H : (if t272 = true then (if t271 = 0 then (if t269 = a0_3 then (if t270 = (wrap64 (-a0_4)) then (if t266 ≤ 32768 then (if t267 ≤ 32768 then (if (l1.length : Int) = 0 then (some true) else (some (decide ((wrap64 (t266 + t267)) ≥ 0)))) else (some false)) else (some false)) else (some false)) else (some false)) else (some false)) else (some false)) = some r := H
            have A18 := Aside0.mk A180
            clear A180
            by_cases c19 : t272 = true
            · subst c19
              have H1 : (if t271 = 0 then (if t269 = a0_3 then (if t270 = (wrap64 (-a0_4)) then (if t266 ≤ 32768 then (if t267 ≤ 32768 then (if (l1.length : Int) = 0 then (some true) else (some (decide ((wrap64 (t266 + t267)) ≥ 0)))) else (some false)) else (some false)) else (some false)) else (some false)) else (some false)) = some r := by rw [if_pos rfl] at H; exact H
              clear H
              have H := H1
              clear H1
              by_cases c20 : t271 = 0
              · rw [if_pos c20] at H
                have c20b0 : (t271 == 0) = true := beq_iff_eq.mpr c20
                have c20b1 : (t271 != 0) = false := bne_eq_false_iff_eq.mpr c20
                clear c20
                by_cases c21 : t269 = a0_3
                · rw [if_pos c21] at H
                  have c21b0 : (t269 == a0_3) = true := beq_iff_eq.mpr c21
                  have c21b1 : (t269 != a0_3) = false := bne_eq_false_iff_eq.mpr c21
                  clear c21
                  by_cases c22 : t270 = (wrap64 (-a0_4))
                  · rw [if_pos c22] at H
                    have c22b0 : (t270 == (wrap64 (-a0_4))) = true := beq_iff_eq.mpr c22
                    have c22b1 : (t270 != (wrap64 (-a0_4))) = false := bne_eq_false_iff_eq.mpr c22
                    clear c22
                    by_cases c23 : t266 ≤ 32768
                    · rw [if_pos c23] at H
                      have c23b0 : decide (t266 ≤ 32768) = true := decide_eq_true c23
                      clear c23
                      by_cases c24 : t267 ≤ 32768
                      · rw [if_pos c24] at H
                        have c24b0 : decide (t267 ≤ 32768) = true := decide_eq_true c24
                        clear c24
                        by_cases c25 : (l1.length : Int) = 0
                        · rw [if_pos c25] at H
                          have c25b0 : ((l1.length : Int) == 0) = true := beq_iff_eq.mpr c25
                          have c25b1 : ((l1.length : Int) != 0) = false := bne_eq_false_iff_eq.mpr c25
                          clear c25
                          obtain rfl := Option.some.inj H
                          have hcz26_0 : wr.cell? ⟨gb262, 0, none⟩ = some (.int .i64 a0_0) := (blk_cell BK262.out 0).trans rfl
                          have hcz26_1 : wr.cell? ⟨gb262, 1, none⟩ = some (.int .i64 a0_1) := (blk_cell BK262.out 1).trans rfl
                          have hcz26_2 : wr.cell? ⟨gb262, 2, none⟩ = some (.int .i64 a0_2) := (blk_cell BK262.out 2).trans rfl
                          have hcz26_3 : wr.cell? ⟨gb262, 3, none⟩ = some (.int .i64 a0_3) := (blk_cell BK262.out 3).trans rfl
                          have hcz26_4 : wr.cell? ⟨gb262, 4, none⟩ = some (.int .i64 a0_4) := (blk_cell BK262.out 4).trans rfl
                          have hcz26_5 : wr.cell? ⟨gb262, 5, none⟩ = some (.bool a0_5) := (blk_cell BK262.out 5).trans rfl
                          have hfz26_0 := blk_frozen BK262.out 0
                          have hfz26_1 := blk_frozen BK262.out 1
                          have hfz26_2 := blk_frozen BK262.out 2
                          have hfz26_3 := blk_frozen BK262.out 3
                          have hfz26_4 := blk_frozen BK262.out 4
                          have hfz26_5 := blk_frozen BK262.out 5
                          go_wp2_with (first | ((with_reducible refine gate_callee (f := 15) rfl ?_); refine goesL_ (some 34) rfl rfl Try.func15 (by kernel_rfl) rfl #[.agg #[.int .i64 a0_0, .int .i64 a0_1, .int .i64 a0_2, .int .i64 a0_3, .int .i64 a0_4, .bool a0_5], .slice A1 l1.length c1, .int .i64 a2] rfl (by (try simp only [List.map_toArray, List.map_cons, List.map_nil]); first | done | rfl | (simp only [List.length_drop, List.length_take]; rfl)) ?_; (with_reducible refine (glyf_High.calls k1 a0_0 a0_1 a0_2 a0_3 a0_4 a0_5 _ _ l1 a2 t266 t267 t268 _ ?side1 ?side2 A15.out).mono ?_); (case side1 => repeat (first | exact (Kd.C_below HR1.out HB.out) | (with_reducible refine Kd.C_alloc ?_ _) | (with_reducible refine Kd.C_drewN ?_ _) | (with_reducible refine Kd.C_drew ?_))); (case side2 => exact HC1.out); rintro e w27 ⟨rfl, hb⟩; refine ⟨_, rfl, ?_⟩; have n0_ := Aside0.mk (blk_below (g := gb262) (o := .cells #[.int .i64 a0_0, .int .i64 a0_1, .int .i64 a0_2, .int .i64 a0_3, .int .i64 a0_4, .bool a0_5] 37 (0, 0)) (by (with_reducible repeat (first | refine blk_drewN ?_ _ | refine blk_drew ?_ | refine blk_alloc ?_ _)); exact BK262.out) hb); have n1_ := Aside0.mk (below_step (by repeat (first | (with_reducible first | exact HB.out | apply below_alloc | apply pw_below_drewN | apply below_drew1 | refine below_set ?_ GE262.out) | exact HB.out)) hb); clear BK262; clear HB; have BK262 := n0_; have HB := n1_; clear n0_ n1_; (try clear hb); (try clear hb2); (try clear hk); (try clear hi); have hcz28_0 : w27.cell? ⟨gb262, 0, none⟩ = some (.int .i64 a0_0) := (blk_cell BK262.out 0).trans rfl; have hcz28_1 : w27.cell? ⟨gb262, 1, none⟩ = some (.int .i64 a0_1) := (blk_cell BK262.out 1).trans rfl; have hcz28_2 : w27.cell? ⟨gb262, 2, none⟩ = some (.int .i64 a0_2) := (blk_cell BK262.out 2).trans rfl; have hcz28_3 : w27.cell? ⟨gb262, 3, none⟩ = some (.int .i64 a0_3) := (blk_cell BK262.out 3).trans rfl; have hcz28_4 : w27.cell? ⟨gb262, 4, none⟩ = some (.int .i64 a0_4) := (blk_cell BK262.out 4).trans rfl; have hcz28_5 : w27.cell? ⟨gb262, 5, none⟩ = some (.bool a0_5) := (blk_cell BK262.out 5).trans rfl; have hfz28_0 := blk_frozen BK262.out 0; have hfz28_1 := blk_frozen BK262.out 1; have hfz28_2 := blk_frozen BK262.out 2; have hfz28_3 := blk_frozen BK262.out 3; have hfz28_4 := blk_frozen BK262.out 4; have hfz28_5 := blk_frozen BK262.out 5) | ((with_reducible refine gate_callee (f := 15) rfl ?_); refine goesL_ (some 41) rfl rfl Try.func15 (by kernel_rfl) rfl #[.agg #[.int .i64 a0_0, .int .i64 a0_1, .int .i64 a0_2, .int .i64 a0_3, .int .i64 a0_4, .bool a0_5], .slice none 0 0, .int .i64 a2] rfl (by (try simp only [List.map_toArray, List.map_cons, List.map_nil]); first | done | rfl | (simp only [List.length_drop, List.length_take]; rfl)) ?_; (refine (glyf_High.calls k1 a0_0 a0_1 a0_2 a0_3 a0_4 a0_5 _ _ ([] : List (S30)) a2 t269 t270 t271 _ ?side1 ?side2 A16.out).mono ?_); (case side1 => exact Kd.C_nil _ _); (case side2 => exact Nat.le_refl _); rintro e w29 ⟨rfl, hb⟩; refine ⟨_, rfl, ?_⟩; have n0_ := Aside0.mk (blk_below (g := gb262) (o := .cells #[.int .i64 a0_0, .int .i64 a0_1, .int .i64 a0_2, .int .i64 a0_3, .int .i64 a0_4, .bool a0_5] 37 (0, 0)) (by (with_reducible repeat (first | refine blk_drewN ?_ _ | refine blk_drew ?_ | refine blk_alloc ?_ _)); exact BK262.out) hb); have n1_ := Aside0.mk (below_step (by repeat (first | (with_reducible first | exact HB.out | apply below_alloc | apply pw_below_drewN | apply below_drew1 | refine below_set ?_ GE262.out) | exact HB.out)) hb); clear BK262; clear HB; have BK262 := n0_; have HB := n1_; clear n0_ n1_; (try clear hb); (try clear hb2); (try clear hk); (try clear hi)) | ((with_reducible refine gate_callee (f := 13) rfl ?_); refine goesL_ (some 77) rfl rfl Try.func13 (by kernel_rfl) rfl #[] rfl (by (try simp only [List.map_toArray, List.map_cons, List.map_nil]); first | done | rfl | (simp only [List.length_drop, List.length_take]; rfl)) ?_; (with_reducible refine (vinculumlaw07_drawn.calls k1  true _ A18.out).mono ?_); rintro e w30 ⟨rfl, hb⟩; refine ⟨_, rfl, ?_⟩; have n0_ := Aside0.mk (blk_below (g := gb262) (o := .cells #[.int .i64 a0_0, .int .i64 a0_1, .int .i64 a0_2, .int .i64 a0_3, .int .i64 a0_4, .bool a0_5] 37 (0, 0)) (by (with_reducible repeat (first | refine blk_drewN ?_ _ | refine blk_drew ?_ | refine blk_alloc ?_ _)); exact BK262.out) hb); have n1_ := Aside0.mk (below_step (by repeat (first | (with_reducible first | exact HB.out | apply below_alloc | apply pw_below_drewN | apply below_drew1 | refine below_set ?_ GE262.out) | exact HB.out)) hb); clear BK262; clear HB; have BK262 := n0_; have HB := n1_; clear n0_ n1_; (try clear hb); (try clear hb2); (try clear hk); (try clear hi); have hcz31_0 : w30.cell? ⟨gb262, 0, none⟩ = some (.int .i64 a0_0) := (blk_cell BK262.out 0).trans rfl; have hcz31_1 : w30.cell? ⟨gb262, 1, none⟩ = some (.int .i64 a0_1) := (blk_cell BK262.out 1).trans rfl; have hcz31_2 : w30.cell? ⟨gb262, 2, none⟩ = some (.int .i64 a0_2) := (blk_cell BK262.out 2).trans rfl; have hcz31_3 : w30.cell? ⟨gb262, 3, none⟩ = some (.int .i64 a0_3) := (blk_cell BK262.out 3).trans rfl; have hcz31_4 : w30.cell? ⟨gb262, 4, none⟩ = some (.int .i64 a0_4) := (blk_cell BK262.out 4).trans rfl; have hcz31_5 : w30.cell? ⟨gb262, 5, none⟩ = some (.bool a0_5) := (blk_cell BK262.out 5).trans rfl; have hfz31_0 := blk_frozen BK262.out 0; have hfz31_1 := blk_frozen BK262.out 1; have hfz31_2 := blk_frozen BK262.out 2; have hfz31_3 := blk_frozen BK262.out 3; have hfz31_4 := blk_frozen BK262.out 4; have hfz31_5 := blk_frozen BK262.out 5))
                          go_ret
                          exact ⟨by first | rfl | (simp [errW_none, errW_some] <;> rfl) | (simp [*, errW_none, errW_some] <;> rfl), by repeat (first | (with_reducible first | exact HB.out | apply below_alloc | apply pw_below_drewN | apply below_drew1 | refine below_set ?_ GE262.out) | exact HB.out)⟩
                        · rw [if_neg c25] at H
                          have c25b0 : ((l1.length : Int) == 0) = false := beq_eq_false_iff_ne.mpr c25
                          have c25b1 : ((l1.length : Int) != 0) = true := bne_iff_ne.mpr c25
                          have c25b2 : ¬ (l1 = []) := fun h_ => c25 (by rw [h_]; rfl)
                          obtain rfl := Option.some.inj H
                          have hcz32_0 : wr.cell? ⟨gb262, 0, none⟩ = some (.int .i64 a0_0) := (blk_cell BK262.out 0).trans rfl
                          have hcz32_1 : wr.cell? ⟨gb262, 1, none⟩ = some (.int .i64 a0_1) := (blk_cell BK262.out 1).trans rfl
                          have hcz32_2 : wr.cell? ⟨gb262, 2, none⟩ = some (.int .i64 a0_2) := (blk_cell BK262.out 2).trans rfl
                          have hcz32_3 : wr.cell? ⟨gb262, 3, none⟩ = some (.int .i64 a0_3) := (blk_cell BK262.out 3).trans rfl
                          have hcz32_4 : wr.cell? ⟨gb262, 4, none⟩ = some (.int .i64 a0_4) := (blk_cell BK262.out 4).trans rfl
                          have hcz32_5 : wr.cell? ⟨gb262, 5, none⟩ = some (.bool a0_5) := (blk_cell BK262.out 5).trans rfl
                          have hfz32_0 := blk_frozen BK262.out 0
                          have hfz32_1 := blk_frozen BK262.out 1
                          have hfz32_2 := blk_frozen BK262.out 2
                          have hfz32_3 := blk_frozen BK262.out 3
                          have hfz32_4 := blk_frozen BK262.out 4
                          have hfz32_5 := blk_frozen BK262.out 5
                          go_wp2_with (first | ((with_reducible refine gate_callee (f := 15) rfl ?_); refine goesL_ (some 34) rfl rfl Try.func15 (by kernel_rfl) rfl #[.agg #[.int .i64 a0_0, .int .i64 a0_1, .int .i64 a0_2, .int .i64 a0_3, .int .i64 a0_4, .bool a0_5], .slice A1 l1.length c1, .int .i64 a2] rfl (by (try simp only [List.map_toArray, List.map_cons, List.map_nil]); first | done | rfl | (simp only [List.length_drop, List.length_take]; rfl)) ?_; (with_reducible refine (glyf_High.calls k1 a0_0 a0_1 a0_2 a0_3 a0_4 a0_5 _ _ l1 a2 t266 t267 t268 _ ?side1 ?side2 A15.out).mono ?_); (case side1 => repeat (first | exact (Kd.C_below HR1.out HB.out) | (with_reducible refine Kd.C_alloc ?_ _) | (with_reducible refine Kd.C_drewN ?_ _) | (with_reducible refine Kd.C_drew ?_))); (case side2 => exact HC1.out); rintro e w33 ⟨rfl, hb⟩; refine ⟨_, rfl, ?_⟩; have n0_ := Aside0.mk (blk_below (g := gb262) (o := .cells #[.int .i64 a0_0, .int .i64 a0_1, .int .i64 a0_2, .int .i64 a0_3, .int .i64 a0_4, .bool a0_5] 37 (0, 0)) (by (with_reducible repeat (first | refine blk_drewN ?_ _ | refine blk_drew ?_ | refine blk_alloc ?_ _)); exact BK262.out) hb); have n1_ := Aside0.mk (below_step (by repeat (first | (with_reducible first | exact HB.out | apply below_alloc | apply pw_below_drewN | apply below_drew1 | refine below_set ?_ GE262.out) | exact HB.out)) hb); clear BK262; clear HB; have BK262 := n0_; have HB := n1_; clear n0_ n1_; (try clear hb); (try clear hb2); (try clear hk); (try clear hi); have hcz34_0 : w33.cell? ⟨gb262, 0, none⟩ = some (.int .i64 a0_0) := (blk_cell BK262.out 0).trans rfl; have hcz34_1 : w33.cell? ⟨gb262, 1, none⟩ = some (.int .i64 a0_1) := (blk_cell BK262.out 1).trans rfl; have hcz34_2 : w33.cell? ⟨gb262, 2, none⟩ = some (.int .i64 a0_2) := (blk_cell BK262.out 2).trans rfl; have hcz34_3 : w33.cell? ⟨gb262, 3, none⟩ = some (.int .i64 a0_3) := (blk_cell BK262.out 3).trans rfl; have hcz34_4 : w33.cell? ⟨gb262, 4, none⟩ = some (.int .i64 a0_4) := (blk_cell BK262.out 4).trans rfl; have hcz34_5 : w33.cell? ⟨gb262, 5, none⟩ = some (.bool a0_5) := (blk_cell BK262.out 5).trans rfl; have hfz34_0 := blk_frozen BK262.out 0; have hfz34_1 := blk_frozen BK262.out 1; have hfz34_2 := blk_frozen BK262.out 2; have hfz34_3 := blk_frozen BK262.out 3; have hfz34_4 := blk_frozen BK262.out 4; have hfz34_5 := blk_frozen BK262.out 5) | ((with_reducible refine gate_callee (f := 15) rfl ?_); refine goesL_ (some 41) rfl rfl Try.func15 (by kernel_rfl) rfl #[.agg #[.int .i64 a0_0, .int .i64 a0_1, .int .i64 a0_2, .int .i64 a0_3, .int .i64 a0_4, .bool a0_5], .slice none 0 0, .int .i64 a2] rfl (by (try simp only [List.map_toArray, List.map_cons, List.map_nil]); first | done | rfl | (simp only [List.length_drop, List.length_take]; rfl)) ?_; (refine (glyf_High.calls k1 a0_0 a0_1 a0_2 a0_3 a0_4 a0_5 _ _ ([] : List (S30)) a2 t269 t270 t271 _ ?side1 ?side2 A16.out).mono ?_); (case side1 => exact Kd.C_nil _ _); (case side2 => exact Nat.le_refl _); rintro e w35 ⟨rfl, hb⟩; refine ⟨_, rfl, ?_⟩; have n0_ := Aside0.mk (blk_below (g := gb262) (o := .cells #[.int .i64 a0_0, .int .i64 a0_1, .int .i64 a0_2, .int .i64 a0_3, .int .i64 a0_4, .bool a0_5] 37 (0, 0)) (by (with_reducible repeat (first | refine blk_drewN ?_ _ | refine blk_drew ?_ | refine blk_alloc ?_ _)); exact BK262.out) hb); have n1_ := Aside0.mk (below_step (by repeat (first | (with_reducible first | exact HB.out | apply below_alloc | apply pw_below_drewN | apply below_drew1 | refine below_set ?_ GE262.out) | exact HB.out)) hb); clear BK262; clear HB; have BK262 := n0_; have HB := n1_; clear n0_ n1_; (try clear hb); (try clear hb2); (try clear hk); (try clear hi)) | ((with_reducible refine gate_callee (f := 13) rfl ?_); refine goesL_ (some 77) rfl rfl Try.func13 (by kernel_rfl) rfl #[] rfl (by (try simp only [List.map_toArray, List.map_cons, List.map_nil]); first | done | rfl | (simp only [List.length_drop, List.length_take]; rfl)) ?_; (with_reducible refine (vinculumlaw07_drawn.calls k1  true _ A18.out).mono ?_); rintro e w36 ⟨rfl, hb⟩; refine ⟨_, rfl, ?_⟩; have n0_ := Aside0.mk (blk_below (g := gb262) (o := .cells #[.int .i64 a0_0, .int .i64 a0_1, .int .i64 a0_2, .int .i64 a0_3, .int .i64 a0_4, .bool a0_5] 37 (0, 0)) (by (with_reducible repeat (first | refine blk_drewN ?_ _ | refine blk_drew ?_ | refine blk_alloc ?_ _)); exact BK262.out) hb); have n1_ := Aside0.mk (below_step (by repeat (first | (with_reducible first | exact HB.out | apply below_alloc | apply pw_below_drewN | apply below_drew1 | refine below_set ?_ GE262.out) | exact HB.out)) hb); clear BK262; clear HB; have BK262 := n0_; have HB := n1_; clear n0_ n1_; (try clear hb); (try clear hb2); (try clear hk); (try clear hi); have hcz37_0 : w36.cell? ⟨gb262, 0, none⟩ = some (.int .i64 a0_0) := (blk_cell BK262.out 0).trans rfl; have hcz37_1 : w36.cell? ⟨gb262, 1, none⟩ = some (.int .i64 a0_1) := (blk_cell BK262.out 1).trans rfl; have hcz37_2 : w36.cell? ⟨gb262, 2, none⟩ = some (.int .i64 a0_2) := (blk_cell BK262.out 2).trans rfl; have hcz37_3 : w36.cell? ⟨gb262, 3, none⟩ = some (.int .i64 a0_3) := (blk_cell BK262.out 3).trans rfl; have hcz37_4 : w36.cell? ⟨gb262, 4, none⟩ = some (.int .i64 a0_4) := (blk_cell BK262.out 4).trans rfl; have hcz37_5 : w36.cell? ⟨gb262, 5, none⟩ = some (.bool a0_5) := (blk_cell BK262.out 5).trans rfl; have hfz37_0 := blk_frozen BK262.out 0; have hfz37_1 := blk_frozen BK262.out 1; have hfz37_2 := blk_frozen BK262.out 2; have hfz37_3 := blk_frozen BK262.out 3; have hfz37_4 := blk_frozen BK262.out 4; have hfz37_5 := blk_frozen BK262.out 5))
                          go_ret
                          exact ⟨by first | rfl | (simp [errW_none, errW_some] <;> rfl) | (simp [*, errW_none, errW_some] <;> rfl), by repeat (first | (with_reducible first | exact HB.out | apply below_alloc | apply pw_below_drewN | apply below_drew1 | refine below_set ?_ GE262.out) | exact HB.out)⟩
                      · rw [if_neg c24] at H
                        have c24b0 : decide (t267 ≤ 32768) = false := decide_eq_false c24
                        clear c24
                        obtain rfl := Option.some.inj H
                        have hcz38_0 : wr.cell? ⟨gb262, 0, none⟩ = some (.int .i64 a0_0) := (blk_cell BK262.out 0).trans rfl
                        have hcz38_1 : wr.cell? ⟨gb262, 1, none⟩ = some (.int .i64 a0_1) := (blk_cell BK262.out 1).trans rfl
                        have hcz38_2 : wr.cell? ⟨gb262, 2, none⟩ = some (.int .i64 a0_2) := (blk_cell BK262.out 2).trans rfl
                        have hcz38_3 : wr.cell? ⟨gb262, 3, none⟩ = some (.int .i64 a0_3) := (blk_cell BK262.out 3).trans rfl
                        have hcz38_4 : wr.cell? ⟨gb262, 4, none⟩ = some (.int .i64 a0_4) := (blk_cell BK262.out 4).trans rfl
                        have hcz38_5 : wr.cell? ⟨gb262, 5, none⟩ = some (.bool a0_5) := (blk_cell BK262.out 5).trans rfl
                        have hfz38_0 := blk_frozen BK262.out 0
                        have hfz38_1 := blk_frozen BK262.out 1
                        have hfz38_2 := blk_frozen BK262.out 2
                        have hfz38_3 := blk_frozen BK262.out 3
                        have hfz38_4 := blk_frozen BK262.out 4
                        have hfz38_5 := blk_frozen BK262.out 5
                        go_wp2_with (first | ((with_reducible refine gate_callee (f := 15) rfl ?_); refine goesL_ (some 34) rfl rfl Try.func15 (by kernel_rfl) rfl #[.agg #[.int .i64 a0_0, .int .i64 a0_1, .int .i64 a0_2, .int .i64 a0_3, .int .i64 a0_4, .bool a0_5], .slice A1 l1.length c1, .int .i64 a2] rfl (by (try simp only [List.map_toArray, List.map_cons, List.map_nil]); first | done | rfl | (simp only [List.length_drop, List.length_take]; rfl)) ?_; (with_reducible refine (glyf_High.calls k1 a0_0 a0_1 a0_2 a0_3 a0_4 a0_5 _ _ l1 a2 t266 t267 t268 _ ?side1 ?side2 A15.out).mono ?_); (case side1 => repeat (first | exact (Kd.C_below HR1.out HB.out) | (with_reducible refine Kd.C_alloc ?_ _) | (with_reducible refine Kd.C_drewN ?_ _) | (with_reducible refine Kd.C_drew ?_))); (case side2 => exact HC1.out); rintro e w39 ⟨rfl, hb⟩; refine ⟨_, rfl, ?_⟩; have n0_ := Aside0.mk (blk_below (g := gb262) (o := .cells #[.int .i64 a0_0, .int .i64 a0_1, .int .i64 a0_2, .int .i64 a0_3, .int .i64 a0_4, .bool a0_5] 37 (0, 0)) (by (with_reducible repeat (first | refine blk_drewN ?_ _ | refine blk_drew ?_ | refine blk_alloc ?_ _)); exact BK262.out) hb); have n1_ := Aside0.mk (below_step (by repeat (first | (with_reducible first | exact HB.out | apply below_alloc | apply pw_below_drewN | apply below_drew1 | refine below_set ?_ GE262.out) | exact HB.out)) hb); clear BK262; clear HB; have BK262 := n0_; have HB := n1_; clear n0_ n1_; (try clear hb); (try clear hb2); (try clear hk); (try clear hi); have hcz40_0 : w39.cell? ⟨gb262, 0, none⟩ = some (.int .i64 a0_0) := (blk_cell BK262.out 0).trans rfl; have hcz40_1 : w39.cell? ⟨gb262, 1, none⟩ = some (.int .i64 a0_1) := (blk_cell BK262.out 1).trans rfl; have hcz40_2 : w39.cell? ⟨gb262, 2, none⟩ = some (.int .i64 a0_2) := (blk_cell BK262.out 2).trans rfl; have hcz40_3 : w39.cell? ⟨gb262, 3, none⟩ = some (.int .i64 a0_3) := (blk_cell BK262.out 3).trans rfl; have hcz40_4 : w39.cell? ⟨gb262, 4, none⟩ = some (.int .i64 a0_4) := (blk_cell BK262.out 4).trans rfl; have hcz40_5 : w39.cell? ⟨gb262, 5, none⟩ = some (.bool a0_5) := (blk_cell BK262.out 5).trans rfl; have hfz40_0 := blk_frozen BK262.out 0; have hfz40_1 := blk_frozen BK262.out 1; have hfz40_2 := blk_frozen BK262.out 2; have hfz40_3 := blk_frozen BK262.out 3; have hfz40_4 := blk_frozen BK262.out 4; have hfz40_5 := blk_frozen BK262.out 5) | ((with_reducible refine gate_callee (f := 15) rfl ?_); refine goesL_ (some 41) rfl rfl Try.func15 (by kernel_rfl) rfl #[.agg #[.int .i64 a0_0, .int .i64 a0_1, .int .i64 a0_2, .int .i64 a0_3, .int .i64 a0_4, .bool a0_5], .slice none 0 0, .int .i64 a2] rfl (by (try simp only [List.map_toArray, List.map_cons, List.map_nil]); first | done | rfl | (simp only [List.length_drop, List.length_take]; rfl)) ?_; (refine (glyf_High.calls k1 a0_0 a0_1 a0_2 a0_3 a0_4 a0_5 _ _ ([] : List (S30)) a2 t269 t270 t271 _ ?side1 ?side2 A16.out).mono ?_); (case side1 => exact Kd.C_nil _ _); (case side2 => exact Nat.le_refl _); rintro e w41 ⟨rfl, hb⟩; refine ⟨_, rfl, ?_⟩; have n0_ := Aside0.mk (blk_below (g := gb262) (o := .cells #[.int .i64 a0_0, .int .i64 a0_1, .int .i64 a0_2, .int .i64 a0_3, .int .i64 a0_4, .bool a0_5] 37 (0, 0)) (by (with_reducible repeat (first | refine blk_drewN ?_ _ | refine blk_drew ?_ | refine blk_alloc ?_ _)); exact BK262.out) hb); have n1_ := Aside0.mk (below_step (by repeat (first | (with_reducible first | exact HB.out | apply below_alloc | apply pw_below_drewN | apply below_drew1 | refine below_set ?_ GE262.out) | exact HB.out)) hb); clear BK262; clear HB; have BK262 := n0_; have HB := n1_; clear n0_ n1_; (try clear hb); (try clear hb2); (try clear hk); (try clear hi)) | ((with_reducible refine gate_callee (f := 13) rfl ?_); refine goesL_ (some 77) rfl rfl Try.func13 (by kernel_rfl) rfl #[] rfl (by (try simp only [List.map_toArray, List.map_cons, List.map_nil]); first | done | rfl | (simp only [List.length_drop, List.length_take]; rfl)) ?_; (with_reducible refine (vinculumlaw07_drawn.calls k1  true _ A18.out).mono ?_); rintro e w42 ⟨rfl, hb⟩; refine ⟨_, rfl, ?_⟩; have n0_ := Aside0.mk (blk_below (g := gb262) (o := .cells #[.int .i64 a0_0, .int .i64 a0_1, .int .i64 a0_2, .int .i64 a0_3, .int .i64 a0_4, .bool a0_5] 37 (0, 0)) (by (with_reducible repeat (first | refine blk_drewN ?_ _ | refine blk_drew ?_ | refine blk_alloc ?_ _)); exact BK262.out) hb); have n1_ := Aside0.mk (below_step (by repeat (first | (with_reducible first | exact HB.out | apply below_alloc | apply pw_below_drewN | apply below_drew1 | refine below_set ?_ GE262.out) | exact HB.out)) hb); clear BK262; clear HB; have BK262 := n0_; have HB := n1_; clear n0_ n1_; (try clear hb); (try clear hb2); (try clear hk); (try clear hi); have hcz43_0 : w42.cell? ⟨gb262, 0, none⟩ = some (.int .i64 a0_0) := (blk_cell BK262.out 0).trans rfl; have hcz43_1 : w42.cell? ⟨gb262, 1, none⟩ = some (.int .i64 a0_1) := (blk_cell BK262.out 1).trans rfl; have hcz43_2 : w42.cell? ⟨gb262, 2, none⟩ = some (.int .i64 a0_2) := (blk_cell BK262.out 2).trans rfl; have hcz43_3 : w42.cell? ⟨gb262, 3, none⟩ = some (.int .i64 a0_3) := (blk_cell BK262.out 3).trans rfl; have hcz43_4 : w42.cell? ⟨gb262, 4, none⟩ = some (.int .i64 a0_4) := (blk_cell BK262.out 4).trans rfl; have hcz43_5 : w42.cell? ⟨gb262, 5, none⟩ = some (.bool a0_5) := (blk_cell BK262.out 5).trans rfl; have hfz43_0 := blk_frozen BK262.out 0; have hfz43_1 := blk_frozen BK262.out 1; have hfz43_2 := blk_frozen BK262.out 2; have hfz43_3 := blk_frozen BK262.out 3; have hfz43_4 := blk_frozen BK262.out 4; have hfz43_5 := blk_frozen BK262.out 5))
                        go_ret
                        exact ⟨by first | rfl | (simp [errW_none, errW_some] <;> rfl) | (simp [*, errW_none, errW_some] <;> rfl), by repeat (first | (with_reducible first | exact HB.out | apply below_alloc | apply pw_below_drewN | apply below_drew1 | refine below_set ?_ GE262.out) | exact HB.out)⟩
                    · rw [if_neg c23] at H
                      have c23b0 : decide (t266 ≤ 32768) = false := decide_eq_false c23
                      clear c23
                      obtain rfl := Option.some.inj H
                      have hcz44_0 : wr.cell? ⟨gb262, 0, none⟩ = some (.int .i64 a0_0) := (blk_cell BK262.out 0).trans rfl
                      have hcz44_1 : wr.cell? ⟨gb262, 1, none⟩ = some (.int .i64 a0_1) := (blk_cell BK262.out 1).trans rfl
                      have hcz44_2 : wr.cell? ⟨gb262, 2, none⟩ = some (.int .i64 a0_2) := (blk_cell BK262.out 2).trans rfl
                      have hcz44_3 : wr.cell? ⟨gb262, 3, none⟩ = some (.int .i64 a0_3) := (blk_cell BK262.out 3).trans rfl
                      have hcz44_4 : wr.cell? ⟨gb262, 4, none⟩ = some (.int .i64 a0_4) := (blk_cell BK262.out 4).trans rfl
                      have hcz44_5 : wr.cell? ⟨gb262, 5, none⟩ = some (.bool a0_5) := (blk_cell BK262.out 5).trans rfl
                      have hfz44_0 := blk_frozen BK262.out 0
                      have hfz44_1 := blk_frozen BK262.out 1
                      have hfz44_2 := blk_frozen BK262.out 2
                      have hfz44_3 := blk_frozen BK262.out 3
                      have hfz44_4 := blk_frozen BK262.out 4
                      have hfz44_5 := blk_frozen BK262.out 5
                      go_wp2_with (first | ((with_reducible refine gate_callee (f := 15) rfl ?_); refine goesL_ (some 34) rfl rfl Try.func15 (by kernel_rfl) rfl #[.agg #[.int .i64 a0_0, .int .i64 a0_1, .int .i64 a0_2, .int .i64 a0_3, .int .i64 a0_4, .bool a0_5], .slice A1 l1.length c1, .int .i64 a2] rfl (by (try simp only [List.map_toArray, List.map_cons, List.map_nil]); first | done | rfl | (simp only [List.length_drop, List.length_take]; rfl)) ?_; (with_reducible refine (glyf_High.calls k1 a0_0 a0_1 a0_2 a0_3 a0_4 a0_5 _ _ l1 a2 t266 t267 t268 _ ?side1 ?side2 A15.out).mono ?_); (case side1 => repeat (first | exact (Kd.C_below HR1.out HB.out) | (with_reducible refine Kd.C_alloc ?_ _) | (with_reducible refine Kd.C_drewN ?_ _) | (with_reducible refine Kd.C_drew ?_))); (case side2 => exact HC1.out); rintro e w45 ⟨rfl, hb⟩; refine ⟨_, rfl, ?_⟩; have n0_ := Aside0.mk (blk_below (g := gb262) (o := .cells #[.int .i64 a0_0, .int .i64 a0_1, .int .i64 a0_2, .int .i64 a0_3, .int .i64 a0_4, .bool a0_5] 37 (0, 0)) (by (with_reducible repeat (first | refine blk_drewN ?_ _ | refine blk_drew ?_ | refine blk_alloc ?_ _)); exact BK262.out) hb); have n1_ := Aside0.mk (below_step (by repeat (first | (with_reducible first | exact HB.out | apply below_alloc | apply pw_below_drewN | apply below_drew1 | refine below_set ?_ GE262.out) | exact HB.out)) hb); clear BK262; clear HB; have BK262 := n0_; have HB := n1_; clear n0_ n1_; (try clear hb); (try clear hb2); (try clear hk); (try clear hi); have hcz46_0 : w45.cell? ⟨gb262, 0, none⟩ = some (.int .i64 a0_0) := (blk_cell BK262.out 0).trans rfl; have hcz46_1 : w45.cell? ⟨gb262, 1, none⟩ = some (.int .i64 a0_1) := (blk_cell BK262.out 1).trans rfl; have hcz46_2 : w45.cell? ⟨gb262, 2, none⟩ = some (.int .i64 a0_2) := (blk_cell BK262.out 2).trans rfl; have hcz46_3 : w45.cell? ⟨gb262, 3, none⟩ = some (.int .i64 a0_3) := (blk_cell BK262.out 3).trans rfl; have hcz46_4 : w45.cell? ⟨gb262, 4, none⟩ = some (.int .i64 a0_4) := (blk_cell BK262.out 4).trans rfl; have hcz46_5 : w45.cell? ⟨gb262, 5, none⟩ = some (.bool a0_5) := (blk_cell BK262.out 5).trans rfl; have hfz46_0 := blk_frozen BK262.out 0; have hfz46_1 := blk_frozen BK262.out 1; have hfz46_2 := blk_frozen BK262.out 2; have hfz46_3 := blk_frozen BK262.out 3; have hfz46_4 := blk_frozen BK262.out 4; have hfz46_5 := blk_frozen BK262.out 5) | ((with_reducible refine gate_callee (f := 15) rfl ?_); refine goesL_ (some 41) rfl rfl Try.func15 (by kernel_rfl) rfl #[.agg #[.int .i64 a0_0, .int .i64 a0_1, .int .i64 a0_2, .int .i64 a0_3, .int .i64 a0_4, .bool a0_5], .slice none 0 0, .int .i64 a2] rfl (by (try simp only [List.map_toArray, List.map_cons, List.map_nil]); first | done | rfl | (simp only [List.length_drop, List.length_take]; rfl)) ?_; (refine (glyf_High.calls k1 a0_0 a0_1 a0_2 a0_3 a0_4 a0_5 _ _ ([] : List (S30)) a2 t269 t270 t271 _ ?side1 ?side2 A16.out).mono ?_); (case side1 => exact Kd.C_nil _ _); (case side2 => exact Nat.le_refl _); rintro e w47 ⟨rfl, hb⟩; refine ⟨_, rfl, ?_⟩; have n0_ := Aside0.mk (blk_below (g := gb262) (o := .cells #[.int .i64 a0_0, .int .i64 a0_1, .int .i64 a0_2, .int .i64 a0_3, .int .i64 a0_4, .bool a0_5] 37 (0, 0)) (by (with_reducible repeat (first | refine blk_drewN ?_ _ | refine blk_drew ?_ | refine blk_alloc ?_ _)); exact BK262.out) hb); have n1_ := Aside0.mk (below_step (by repeat (first | (with_reducible first | exact HB.out | apply below_alloc | apply pw_below_drewN | apply below_drew1 | refine below_set ?_ GE262.out) | exact HB.out)) hb); clear BK262; clear HB; have BK262 := n0_; have HB := n1_; clear n0_ n1_; (try clear hb); (try clear hb2); (try clear hk); (try clear hi)) | ((with_reducible refine gate_callee (f := 13) rfl ?_); refine goesL_ (some 77) rfl rfl Try.func13 (by kernel_rfl) rfl #[] rfl (by (try simp only [List.map_toArray, List.map_cons, List.map_nil]); first | done | rfl | (simp only [List.length_drop, List.length_take]; rfl)) ?_; (with_reducible refine (vinculumlaw07_drawn.calls k1  true _ A18.out).mono ?_); rintro e w48 ⟨rfl, hb⟩; refine ⟨_, rfl, ?_⟩; have n0_ := Aside0.mk (blk_below (g := gb262) (o := .cells #[.int .i64 a0_0, .int .i64 a0_1, .int .i64 a0_2, .int .i64 a0_3, .int .i64 a0_4, .bool a0_5] 37 (0, 0)) (by (with_reducible repeat (first | refine blk_drewN ?_ _ | refine blk_drew ?_ | refine blk_alloc ?_ _)); exact BK262.out) hb); have n1_ := Aside0.mk (below_step (by repeat (first | (with_reducible first | exact HB.out | apply below_alloc | apply pw_below_drewN | apply below_drew1 | refine below_set ?_ GE262.out) | exact HB.out)) hb); clear BK262; clear HB; have BK262 := n0_; have HB := n1_; clear n0_ n1_; (try clear hb); (try clear hb2); (try clear hk); (try clear hi); have hcz49_0 : w48.cell? ⟨gb262, 0, none⟩ = some (.int .i64 a0_0) := (blk_cell BK262.out 0).trans rfl; have hcz49_1 : w48.cell? ⟨gb262, 1, none⟩ = some (.int .i64 a0_1) := (blk_cell BK262.out 1).trans rfl; have hcz49_2 : w48.cell? ⟨gb262, 2, none⟩ = some (.int .i64 a0_2) := (blk_cell BK262.out 2).trans rfl; have hcz49_3 : w48.cell? ⟨gb262, 3, none⟩ = some (.int .i64 a0_3) := (blk_cell BK262.out 3).trans rfl; have hcz49_4 : w48.cell? ⟨gb262, 4, none⟩ = some (.int .i64 a0_4) := (blk_cell BK262.out 4).trans rfl; have hcz49_5 : w48.cell? ⟨gb262, 5, none⟩ = some (.bool a0_5) := (blk_cell BK262.out 5).trans rfl; have hfz49_0 := blk_frozen BK262.out 0; have hfz49_1 := blk_frozen BK262.out 1; have hfz49_2 := blk_frozen BK262.out 2; have hfz49_3 := blk_frozen BK262.out 3; have hfz49_4 := blk_frozen BK262.out 4; have hfz49_5 := blk_frozen BK262.out 5))
                      go_ret
                      exact ⟨by first | rfl | (simp [errW_none, errW_some] <;> rfl) | (simp [*, errW_none, errW_some] <;> rfl), by repeat (first | (with_reducible first | exact HB.out | apply below_alloc | apply pw_below_drewN | apply below_drew1 | refine below_set ?_ GE262.out) | exact HB.out)⟩
                  · rw [if_neg c22] at H
                    have c22b0 : (t270 == (wrap64 (-a0_4))) = false := beq_eq_false_iff_ne.mpr c22
                    have c22b1 : (t270 != (wrap64 (-a0_4))) = true := bne_iff_ne.mpr c22
                    obtain rfl := Option.some.inj H
                    have hcz50_0 : wr.cell? ⟨gb262, 0, none⟩ = some (.int .i64 a0_0) := (blk_cell BK262.out 0).trans rfl
                    have hcz50_1 : wr.cell? ⟨gb262, 1, none⟩ = some (.int .i64 a0_1) := (blk_cell BK262.out 1).trans rfl
                    have hcz50_2 : wr.cell? ⟨gb262, 2, none⟩ = some (.int .i64 a0_2) := (blk_cell BK262.out 2).trans rfl
                    have hcz50_3 : wr.cell? ⟨gb262, 3, none⟩ = some (.int .i64 a0_3) := (blk_cell BK262.out 3).trans rfl
                    have hcz50_4 : wr.cell? ⟨gb262, 4, none⟩ = some (.int .i64 a0_4) := (blk_cell BK262.out 4).trans rfl
                    have hcz50_5 : wr.cell? ⟨gb262, 5, none⟩ = some (.bool a0_5) := (blk_cell BK262.out 5).trans rfl
                    have hfz50_0 := blk_frozen BK262.out 0
                    have hfz50_1 := blk_frozen BK262.out 1
                    have hfz50_2 := blk_frozen BK262.out 2
                    have hfz50_3 := blk_frozen BK262.out 3
                    have hfz50_4 := blk_frozen BK262.out 4
                    have hfz50_5 := blk_frozen BK262.out 5
                    go_wp2_with (first | ((with_reducible refine gate_callee (f := 15) rfl ?_); refine goesL_ (some 34) rfl rfl Try.func15 (by kernel_rfl) rfl #[.agg #[.int .i64 a0_0, .int .i64 a0_1, .int .i64 a0_2, .int .i64 a0_3, .int .i64 a0_4, .bool a0_5], .slice A1 l1.length c1, .int .i64 a2] rfl (by (try simp only [List.map_toArray, List.map_cons, List.map_nil]); first | done | rfl | (simp only [List.length_drop, List.length_take]; rfl)) ?_; (with_reducible refine (glyf_High.calls k1 a0_0 a0_1 a0_2 a0_3 a0_4 a0_5 _ _ l1 a2 t266 t267 t268 _ ?side1 ?side2 A15.out).mono ?_); (case side1 => repeat (first | exact (Kd.C_below HR1.out HB.out) | (with_reducible refine Kd.C_alloc ?_ _) | (with_reducible refine Kd.C_drewN ?_ _) | (with_reducible refine Kd.C_drew ?_))); (case side2 => exact HC1.out); rintro e w51 ⟨rfl, hb⟩; refine ⟨_, rfl, ?_⟩; have n0_ := Aside0.mk (blk_below (g := gb262) (o := .cells #[.int .i64 a0_0, .int .i64 a0_1, .int .i64 a0_2, .int .i64 a0_3, .int .i64 a0_4, .bool a0_5] 37 (0, 0)) (by (with_reducible repeat (first | refine blk_drewN ?_ _ | refine blk_drew ?_ | refine blk_alloc ?_ _)); exact BK262.out) hb); have n1_ := Aside0.mk (below_step (by repeat (first | (with_reducible first | exact HB.out | apply below_alloc | apply pw_below_drewN | apply below_drew1 | refine below_set ?_ GE262.out) | exact HB.out)) hb); clear BK262; clear HB; have BK262 := n0_; have HB := n1_; clear n0_ n1_; (try clear hb); (try clear hb2); (try clear hk); (try clear hi); have hcz52_0 : w51.cell? ⟨gb262, 0, none⟩ = some (.int .i64 a0_0) := (blk_cell BK262.out 0).trans rfl; have hcz52_1 : w51.cell? ⟨gb262, 1, none⟩ = some (.int .i64 a0_1) := (blk_cell BK262.out 1).trans rfl; have hcz52_2 : w51.cell? ⟨gb262, 2, none⟩ = some (.int .i64 a0_2) := (blk_cell BK262.out 2).trans rfl; have hcz52_3 : w51.cell? ⟨gb262, 3, none⟩ = some (.int .i64 a0_3) := (blk_cell BK262.out 3).trans rfl; have hcz52_4 : w51.cell? ⟨gb262, 4, none⟩ = some (.int .i64 a0_4) := (blk_cell BK262.out 4).trans rfl; have hcz52_5 : w51.cell? ⟨gb262, 5, none⟩ = some (.bool a0_5) := (blk_cell BK262.out 5).trans rfl; have hfz52_0 := blk_frozen BK262.out 0; have hfz52_1 := blk_frozen BK262.out 1; have hfz52_2 := blk_frozen BK262.out 2; have hfz52_3 := blk_frozen BK262.out 3; have hfz52_4 := blk_frozen BK262.out 4; have hfz52_5 := blk_frozen BK262.out 5) | ((with_reducible refine gate_callee (f := 15) rfl ?_); refine goesL_ (some 41) rfl rfl Try.func15 (by kernel_rfl) rfl #[.agg #[.int .i64 a0_0, .int .i64 a0_1, .int .i64 a0_2, .int .i64 a0_3, .int .i64 a0_4, .bool a0_5], .slice none 0 0, .int .i64 a2] rfl (by (try simp only [List.map_toArray, List.map_cons, List.map_nil]); first | done | rfl | (simp only [List.length_drop, List.length_take]; rfl)) ?_; (refine (glyf_High.calls k1 a0_0 a0_1 a0_2 a0_3 a0_4 a0_5 _ _ ([] : List (S30)) a2 t269 t270 t271 _ ?side1 ?side2 A16.out).mono ?_); (case side1 => exact Kd.C_nil _ _); (case side2 => exact Nat.le_refl _); rintro e w53 ⟨rfl, hb⟩; refine ⟨_, rfl, ?_⟩; have n0_ := Aside0.mk (blk_below (g := gb262) (o := .cells #[.int .i64 a0_0, .int .i64 a0_1, .int .i64 a0_2, .int .i64 a0_3, .int .i64 a0_4, .bool a0_5] 37 (0, 0)) (by (with_reducible repeat (first | refine blk_drewN ?_ _ | refine blk_drew ?_ | refine blk_alloc ?_ _)); exact BK262.out) hb); have n1_ := Aside0.mk (below_step (by repeat (first | (with_reducible first | exact HB.out | apply below_alloc | apply pw_below_drewN | apply below_drew1 | refine below_set ?_ GE262.out) | exact HB.out)) hb); clear BK262; clear HB; have BK262 := n0_; have HB := n1_; clear n0_ n1_; (try clear hb); (try clear hb2); (try clear hk); (try clear hi)) | ((with_reducible refine gate_callee (f := 13) rfl ?_); refine goesL_ (some 77) rfl rfl Try.func13 (by kernel_rfl) rfl #[] rfl (by (try simp only [List.map_toArray, List.map_cons, List.map_nil]); first | done | rfl | (simp only [List.length_drop, List.length_take]; rfl)) ?_; (with_reducible refine (vinculumlaw07_drawn.calls k1  true _ A18.out).mono ?_); rintro e w54 ⟨rfl, hb⟩; refine ⟨_, rfl, ?_⟩; have n0_ := Aside0.mk (blk_below (g := gb262) (o := .cells #[.int .i64 a0_0, .int .i64 a0_1, .int .i64 a0_2, .int .i64 a0_3, .int .i64 a0_4, .bool a0_5] 37 (0, 0)) (by (with_reducible repeat (first | refine blk_drewN ?_ _ | refine blk_drew ?_ | refine blk_alloc ?_ _)); exact BK262.out) hb); have n1_ := Aside0.mk (below_step (by repeat (first | (with_reducible first | exact HB.out | apply below_alloc | apply pw_below_drewN | apply below_drew1 | refine below_set ?_ GE262.out) | exact HB.out)) hb); clear BK262; clear HB; have BK262 := n0_; have HB := n1_; clear n0_ n1_; (try clear hb); (try clear hb2); (try clear hk); (try clear hi); have hcz55_0 : w54.cell? ⟨gb262, 0, none⟩ = some (.int .i64 a0_0) := (blk_cell BK262.out 0).trans rfl; have hcz55_1 : w54.cell? ⟨gb262, 1, none⟩ = some (.int .i64 a0_1) := (blk_cell BK262.out 1).trans rfl; have hcz55_2 : w54.cell? ⟨gb262, 2, none⟩ = some (.int .i64 a0_2) := (blk_cell BK262.out 2).trans rfl; have hcz55_3 : w54.cell? ⟨gb262, 3, none⟩ = some (.int .i64 a0_3) := (blk_cell BK262.out 3).trans rfl; have hcz55_4 : w54.cell? ⟨gb262, 4, none⟩ = some (.int .i64 a0_4) := (blk_cell BK262.out 4).trans rfl; have hcz55_5 : w54.cell? ⟨gb262, 5, none⟩ = some (.bool a0_5) := (blk_cell BK262.out 5).trans rfl; have hfz55_0 := blk_frozen BK262.out 0; have hfz55_1 := blk_frozen BK262.out 1; have hfz55_2 := blk_frozen BK262.out 2; have hfz55_3 := blk_frozen BK262.out 3; have hfz55_4 := blk_frozen BK262.out 4; have hfz55_5 := blk_frozen BK262.out 5))
                    go_ret
                    exact ⟨by first | rfl | (simp [errW_none, errW_some] <;> rfl) | (simp [*, errW_none, errW_some] <;> rfl), by repeat (first | (with_reducible first | exact HB.out | apply below_alloc | apply pw_below_drewN | apply below_drew1 | refine below_set ?_ GE262.out) | exact HB.out)⟩
                · rw [if_neg c21] at H
                  have c21b0 : (t269 == a0_3) = false := beq_eq_false_iff_ne.mpr c21
                  have c21b1 : (t269 != a0_3) = true := bne_iff_ne.mpr c21
                  obtain rfl := Option.some.inj H
                  have hcz56_0 : wr.cell? ⟨gb262, 0, none⟩ = some (.int .i64 a0_0) := (blk_cell BK262.out 0).trans rfl
                  have hcz56_1 : wr.cell? ⟨gb262, 1, none⟩ = some (.int .i64 a0_1) := (blk_cell BK262.out 1).trans rfl
                  have hcz56_2 : wr.cell? ⟨gb262, 2, none⟩ = some (.int .i64 a0_2) := (blk_cell BK262.out 2).trans rfl
                  have hcz56_3 : wr.cell? ⟨gb262, 3, none⟩ = some (.int .i64 a0_3) := (blk_cell BK262.out 3).trans rfl
                  have hcz56_4 : wr.cell? ⟨gb262, 4, none⟩ = some (.int .i64 a0_4) := (blk_cell BK262.out 4).trans rfl
                  have hcz56_5 : wr.cell? ⟨gb262, 5, none⟩ = some (.bool a0_5) := (blk_cell BK262.out 5).trans rfl
                  have hfz56_0 := blk_frozen BK262.out 0
                  have hfz56_1 := blk_frozen BK262.out 1
                  have hfz56_2 := blk_frozen BK262.out 2
                  have hfz56_3 := blk_frozen BK262.out 3
                  have hfz56_4 := blk_frozen BK262.out 4
                  have hfz56_5 := blk_frozen BK262.out 5
                  go_wp2_with (first | ((with_reducible refine gate_callee (f := 15) rfl ?_); refine goesL_ (some 34) rfl rfl Try.func15 (by kernel_rfl) rfl #[.agg #[.int .i64 a0_0, .int .i64 a0_1, .int .i64 a0_2, .int .i64 a0_3, .int .i64 a0_4, .bool a0_5], .slice A1 l1.length c1, .int .i64 a2] rfl (by (try simp only [List.map_toArray, List.map_cons, List.map_nil]); first | done | rfl | (simp only [List.length_drop, List.length_take]; rfl)) ?_; (with_reducible refine (glyf_High.calls k1 a0_0 a0_1 a0_2 a0_3 a0_4 a0_5 _ _ l1 a2 t266 t267 t268 _ ?side1 ?side2 A15.out).mono ?_); (case side1 => repeat (first | exact (Kd.C_below HR1.out HB.out) | (with_reducible refine Kd.C_alloc ?_ _) | (with_reducible refine Kd.C_drewN ?_ _) | (with_reducible refine Kd.C_drew ?_))); (case side2 => exact HC1.out); rintro e w57 ⟨rfl, hb⟩; refine ⟨_, rfl, ?_⟩; have n0_ := Aside0.mk (blk_below (g := gb262) (o := .cells #[.int .i64 a0_0, .int .i64 a0_1, .int .i64 a0_2, .int .i64 a0_3, .int .i64 a0_4, .bool a0_5] 37 (0, 0)) (by (with_reducible repeat (first | refine blk_drewN ?_ _ | refine blk_drew ?_ | refine blk_alloc ?_ _)); exact BK262.out) hb); have n1_ := Aside0.mk (below_step (by repeat (first | (with_reducible first | exact HB.out | apply below_alloc | apply pw_below_drewN | apply below_drew1 | refine below_set ?_ GE262.out) | exact HB.out)) hb); clear BK262; clear HB; have BK262 := n0_; have HB := n1_; clear n0_ n1_; (try clear hb); (try clear hb2); (try clear hk); (try clear hi); have hcz58_0 : w57.cell? ⟨gb262, 0, none⟩ = some (.int .i64 a0_0) := (blk_cell BK262.out 0).trans rfl; have hcz58_1 : w57.cell? ⟨gb262, 1, none⟩ = some (.int .i64 a0_1) := (blk_cell BK262.out 1).trans rfl; have hcz58_2 : w57.cell? ⟨gb262, 2, none⟩ = some (.int .i64 a0_2) := (blk_cell BK262.out 2).trans rfl; have hcz58_3 : w57.cell? ⟨gb262, 3, none⟩ = some (.int .i64 a0_3) := (blk_cell BK262.out 3).trans rfl; have hcz58_4 : w57.cell? ⟨gb262, 4, none⟩ = some (.int .i64 a0_4) := (blk_cell BK262.out 4).trans rfl; have hcz58_5 : w57.cell? ⟨gb262, 5, none⟩ = some (.bool a0_5) := (blk_cell BK262.out 5).trans rfl; have hfz58_0 := blk_frozen BK262.out 0; have hfz58_1 := blk_frozen BK262.out 1; have hfz58_2 := blk_frozen BK262.out 2; have hfz58_3 := blk_frozen BK262.out 3; have hfz58_4 := blk_frozen BK262.out 4; have hfz58_5 := blk_frozen BK262.out 5) | ((with_reducible refine gate_callee (f := 15) rfl ?_); refine goesL_ (some 41) rfl rfl Try.func15 (by kernel_rfl) rfl #[.agg #[.int .i64 a0_0, .int .i64 a0_1, .int .i64 a0_2, .int .i64 a0_3, .int .i64 a0_4, .bool a0_5], .slice none 0 0, .int .i64 a2] rfl (by (try simp only [List.map_toArray, List.map_cons, List.map_nil]); first | done | rfl | (simp only [List.length_drop, List.length_take]; rfl)) ?_; (refine (glyf_High.calls k1 a0_0 a0_1 a0_2 a0_3 a0_4 a0_5 _ _ ([] : List (S30)) a2 t269 t270 t271 _ ?side1 ?side2 A16.out).mono ?_); (case side1 => exact Kd.C_nil _ _); (case side2 => exact Nat.le_refl _); rintro e w59 ⟨rfl, hb⟩; refine ⟨_, rfl, ?_⟩; have n0_ := Aside0.mk (blk_below (g := gb262) (o := .cells #[.int .i64 a0_0, .int .i64 a0_1, .int .i64 a0_2, .int .i64 a0_3, .int .i64 a0_4, .bool a0_5] 37 (0, 0)) (by (with_reducible repeat (first | refine blk_drewN ?_ _ | refine blk_drew ?_ | refine blk_alloc ?_ _)); exact BK262.out) hb); have n1_ := Aside0.mk (below_step (by repeat (first | (with_reducible first | exact HB.out | apply below_alloc | apply pw_below_drewN | apply below_drew1 | refine below_set ?_ GE262.out) | exact HB.out)) hb); clear BK262; clear HB; have BK262 := n0_; have HB := n1_; clear n0_ n1_; (try clear hb); (try clear hb2); (try clear hk); (try clear hi)) | ((with_reducible refine gate_callee (f := 13) rfl ?_); refine goesL_ (some 77) rfl rfl Try.func13 (by kernel_rfl) rfl #[] rfl (by (try simp only [List.map_toArray, List.map_cons, List.map_nil]); first | done | rfl | (simp only [List.length_drop, List.length_take]; rfl)) ?_; (with_reducible refine (vinculumlaw07_drawn.calls k1  true _ A18.out).mono ?_); rintro e w60 ⟨rfl, hb⟩; refine ⟨_, rfl, ?_⟩; have n0_ := Aside0.mk (blk_below (g := gb262) (o := .cells #[.int .i64 a0_0, .int .i64 a0_1, .int .i64 a0_2, .int .i64 a0_3, .int .i64 a0_4, .bool a0_5] 37 (0, 0)) (by (with_reducible repeat (first | refine blk_drewN ?_ _ | refine blk_drew ?_ | refine blk_alloc ?_ _)); exact BK262.out) hb); have n1_ := Aside0.mk (below_step (by repeat (first | (with_reducible first | exact HB.out | apply below_alloc | apply pw_below_drewN | apply below_drew1 | refine below_set ?_ GE262.out) | exact HB.out)) hb); clear BK262; clear HB; have BK262 := n0_; have HB := n1_; clear n0_ n1_; (try clear hb); (try clear hb2); (try clear hk); (try clear hi); have hcz61_0 : w60.cell? ⟨gb262, 0, none⟩ = some (.int .i64 a0_0) := (blk_cell BK262.out 0).trans rfl; have hcz61_1 : w60.cell? ⟨gb262, 1, none⟩ = some (.int .i64 a0_1) := (blk_cell BK262.out 1).trans rfl; have hcz61_2 : w60.cell? ⟨gb262, 2, none⟩ = some (.int .i64 a0_2) := (blk_cell BK262.out 2).trans rfl; have hcz61_3 : w60.cell? ⟨gb262, 3, none⟩ = some (.int .i64 a0_3) := (blk_cell BK262.out 3).trans rfl; have hcz61_4 : w60.cell? ⟨gb262, 4, none⟩ = some (.int .i64 a0_4) := (blk_cell BK262.out 4).trans rfl; have hcz61_5 : w60.cell? ⟨gb262, 5, none⟩ = some (.bool a0_5) := (blk_cell BK262.out 5).trans rfl; have hfz61_0 := blk_frozen BK262.out 0; have hfz61_1 := blk_frozen BK262.out 1; have hfz61_2 := blk_frozen BK262.out 2; have hfz61_3 := blk_frozen BK262.out 3; have hfz61_4 := blk_frozen BK262.out 4; have hfz61_5 := blk_frozen BK262.out 5))
                  go_ret
                  exact ⟨by first | rfl | (simp [errW_none, errW_some] <;> rfl) | (simp [*, errW_none, errW_some] <;> rfl), by repeat (first | (with_reducible first | exact HB.out | apply below_alloc | apply pw_below_drewN | apply below_drew1 | refine below_set ?_ GE262.out) | exact HB.out)⟩
              · rw [if_neg c20] at H
                have c20b0 : (t271 == 0) = false := beq_eq_false_iff_ne.mpr c20
                have c20b1 : (t271 != 0) = true := bne_iff_ne.mpr c20
                obtain rfl := Option.some.inj H
                have hcz62_0 : wr.cell? ⟨gb262, 0, none⟩ = some (.int .i64 a0_0) := (blk_cell BK262.out 0).trans rfl
                have hcz62_1 : wr.cell? ⟨gb262, 1, none⟩ = some (.int .i64 a0_1) := (blk_cell BK262.out 1).trans rfl
                have hcz62_2 : wr.cell? ⟨gb262, 2, none⟩ = some (.int .i64 a0_2) := (blk_cell BK262.out 2).trans rfl
                have hcz62_3 : wr.cell? ⟨gb262, 3, none⟩ = some (.int .i64 a0_3) := (blk_cell BK262.out 3).trans rfl
                have hcz62_4 : wr.cell? ⟨gb262, 4, none⟩ = some (.int .i64 a0_4) := (blk_cell BK262.out 4).trans rfl
                have hcz62_5 : wr.cell? ⟨gb262, 5, none⟩ = some (.bool a0_5) := (blk_cell BK262.out 5).trans rfl
                have hfz62_0 := blk_frozen BK262.out 0
                have hfz62_1 := blk_frozen BK262.out 1
                have hfz62_2 := blk_frozen BK262.out 2
                have hfz62_3 := blk_frozen BK262.out 3
                have hfz62_4 := blk_frozen BK262.out 4
                have hfz62_5 := blk_frozen BK262.out 5
                go_wp2_with (first | ((with_reducible refine gate_callee (f := 15) rfl ?_); refine goesL_ (some 34) rfl rfl Try.func15 (by kernel_rfl) rfl #[.agg #[.int .i64 a0_0, .int .i64 a0_1, .int .i64 a0_2, .int .i64 a0_3, .int .i64 a0_4, .bool a0_5], .slice A1 l1.length c1, .int .i64 a2] rfl (by (try simp only [List.map_toArray, List.map_cons, List.map_nil]); first | done | rfl | (simp only [List.length_drop, List.length_take]; rfl)) ?_; (with_reducible refine (glyf_High.calls k1 a0_0 a0_1 a0_2 a0_3 a0_4 a0_5 _ _ l1 a2 t266 t267 t268 _ ?side1 ?side2 A15.out).mono ?_); (case side1 => repeat (first | exact (Kd.C_below HR1.out HB.out) | (with_reducible refine Kd.C_alloc ?_ _) | (with_reducible refine Kd.C_drewN ?_ _) | (with_reducible refine Kd.C_drew ?_))); (case side2 => exact HC1.out); rintro e w63 ⟨rfl, hb⟩; refine ⟨_, rfl, ?_⟩; have n0_ := Aside0.mk (blk_below (g := gb262) (o := .cells #[.int .i64 a0_0, .int .i64 a0_1, .int .i64 a0_2, .int .i64 a0_3, .int .i64 a0_4, .bool a0_5] 37 (0, 0)) (by (with_reducible repeat (first | refine blk_drewN ?_ _ | refine blk_drew ?_ | refine blk_alloc ?_ _)); exact BK262.out) hb); have n1_ := Aside0.mk (below_step (by repeat (first | (with_reducible first | exact HB.out | apply below_alloc | apply pw_below_drewN | apply below_drew1 | refine below_set ?_ GE262.out) | exact HB.out)) hb); clear BK262; clear HB; have BK262 := n0_; have HB := n1_; clear n0_ n1_; (try clear hb); (try clear hb2); (try clear hk); (try clear hi); have hcz64_0 : w63.cell? ⟨gb262, 0, none⟩ = some (.int .i64 a0_0) := (blk_cell BK262.out 0).trans rfl; have hcz64_1 : w63.cell? ⟨gb262, 1, none⟩ = some (.int .i64 a0_1) := (blk_cell BK262.out 1).trans rfl; have hcz64_2 : w63.cell? ⟨gb262, 2, none⟩ = some (.int .i64 a0_2) := (blk_cell BK262.out 2).trans rfl; have hcz64_3 : w63.cell? ⟨gb262, 3, none⟩ = some (.int .i64 a0_3) := (blk_cell BK262.out 3).trans rfl; have hcz64_4 : w63.cell? ⟨gb262, 4, none⟩ = some (.int .i64 a0_4) := (blk_cell BK262.out 4).trans rfl; have hcz64_5 : w63.cell? ⟨gb262, 5, none⟩ = some (.bool a0_5) := (blk_cell BK262.out 5).trans rfl; have hfz64_0 := blk_frozen BK262.out 0; have hfz64_1 := blk_frozen BK262.out 1; have hfz64_2 := blk_frozen BK262.out 2; have hfz64_3 := blk_frozen BK262.out 3; have hfz64_4 := blk_frozen BK262.out 4; have hfz64_5 := blk_frozen BK262.out 5) | ((with_reducible refine gate_callee (f := 15) rfl ?_); refine goesL_ (some 41) rfl rfl Try.func15 (by kernel_rfl) rfl #[.agg #[.int .i64 a0_0, .int .i64 a0_1, .int .i64 a0_2, .int .i64 a0_3, .int .i64 a0_4, .bool a0_5], .slice none 0 0, .int .i64 a2] rfl (by (try simp only [List.map_toArray, List.map_cons, List.map_nil]); first | done | rfl | (simp only [List.length_drop, List.length_take]; rfl)) ?_; (refine (glyf_High.calls k1 a0_0 a0_1 a0_2 a0_3 a0_4 a0_5 _ _ ([] : List (S30)) a2 t269 t270 t271 _ ?side1 ?side2 A16.out).mono ?_); (case side1 => exact Kd.C_nil _ _); (case side2 => exact Nat.le_refl _); rintro e w65 ⟨rfl, hb⟩; refine ⟨_, rfl, ?_⟩; have n0_ := Aside0.mk (blk_below (g := gb262) (o := .cells #[.int .i64 a0_0, .int .i64 a0_1, .int .i64 a0_2, .int .i64 a0_3, .int .i64 a0_4, .bool a0_5] 37 (0, 0)) (by (with_reducible repeat (first | refine blk_drewN ?_ _ | refine blk_drew ?_ | refine blk_alloc ?_ _)); exact BK262.out) hb); have n1_ := Aside0.mk (below_step (by repeat (first | (with_reducible first | exact HB.out | apply below_alloc | apply pw_below_drewN | apply below_drew1 | refine below_set ?_ GE262.out) | exact HB.out)) hb); clear BK262; clear HB; have BK262 := n0_; have HB := n1_; clear n0_ n1_; (try clear hb); (try clear hb2); (try clear hk); (try clear hi)) | ((with_reducible refine gate_callee (f := 13) rfl ?_); refine goesL_ (some 77) rfl rfl Try.func13 (by kernel_rfl) rfl #[] rfl (by (try simp only [List.map_toArray, List.map_cons, List.map_nil]); first | done | rfl | (simp only [List.length_drop, List.length_take]; rfl)) ?_; (with_reducible refine (vinculumlaw07_drawn.calls k1  true _ A18.out).mono ?_); rintro e w66 ⟨rfl, hb⟩; refine ⟨_, rfl, ?_⟩; have n0_ := Aside0.mk (blk_below (g := gb262) (o := .cells #[.int .i64 a0_0, .int .i64 a0_1, .int .i64 a0_2, .int .i64 a0_3, .int .i64 a0_4, .bool a0_5] 37 (0, 0)) (by (with_reducible repeat (first | refine blk_drewN ?_ _ | refine blk_drew ?_ | refine blk_alloc ?_ _)); exact BK262.out) hb); have n1_ := Aside0.mk (below_step (by repeat (first | (with_reducible first | exact HB.out | apply below_alloc | apply pw_below_drewN | apply below_drew1 | refine below_set ?_ GE262.out) | exact HB.out)) hb); clear BK262; clear HB; have BK262 := n0_; have HB := n1_; clear n0_ n1_; (try clear hb); (try clear hb2); (try clear hk); (try clear hi)))
                go_ret
                exact ⟨by first | rfl | (simp [errW_none, errW_some] <;> rfl) | (simp [*, errW_none, errW_some] <;> rfl), by repeat (first | (with_reducible first | exact HB.out | apply below_alloc | apply pw_below_drewN | apply below_drew1 | refine below_set ?_ GE262.out) | exact HB.out)⟩
            · replace c19 := Bool.eq_false_iff.mpr c19
              subst c19
              have H1 : (some false) = some r := by rw [if_neg (show ¬ (false = true) by decide)] at H; exact H
              clear H
              have H := H1
              clear H1
              obtain rfl := Option.some.inj H
              have hcz67_0 : wr.cell? ⟨gb262, 0, none⟩ = some (.int .i64 a0_0) := (blk_cell BK262.out 0).trans rfl
              have hcz67_1 : wr.cell? ⟨gb262, 1, none⟩ = some (.int .i64 a0_1) := (blk_cell BK262.out 1).trans rfl
              have hcz67_2 : wr.cell? ⟨gb262, 2, none⟩ = some (.int .i64 a0_2) := (blk_cell BK262.out 2).trans rfl
              have hcz67_3 : wr.cell? ⟨gb262, 3, none⟩ = some (.int .i64 a0_3) := (blk_cell BK262.out 3).trans rfl
              have hcz67_4 : wr.cell? ⟨gb262, 4, none⟩ = some (.int .i64 a0_4) := (blk_cell BK262.out 4).trans rfl
              have hcz67_5 : wr.cell? ⟨gb262, 5, none⟩ = some (.bool a0_5) := (blk_cell BK262.out 5).trans rfl
              have hfz67_0 := blk_frozen BK262.out 0
              have hfz67_1 := blk_frozen BK262.out 1
              have hfz67_2 := blk_frozen BK262.out 2
              have hfz67_3 := blk_frozen BK262.out 3
              have hfz67_4 := blk_frozen BK262.out 4
              have hfz67_5 := blk_frozen BK262.out 5
              go_wp2_with (first | ((with_reducible refine gate_callee (f := 15) rfl ?_); refine goesL_ (some 34) rfl rfl Try.func15 (by kernel_rfl) rfl #[.agg #[.int .i64 a0_0, .int .i64 a0_1, .int .i64 a0_2, .int .i64 a0_3, .int .i64 a0_4, .bool a0_5], .slice A1 l1.length c1, .int .i64 a2] rfl (by (try simp only [List.map_toArray, List.map_cons, List.map_nil]); first | done | rfl | (simp only [List.length_drop, List.length_take]; rfl)) ?_; (with_reducible refine (glyf_High.calls k1 a0_0 a0_1 a0_2 a0_3 a0_4 a0_5 _ _ l1 a2 t266 t267 t268 _ ?side1 ?side2 A15.out).mono ?_); (case side1 => repeat (first | exact (Kd.C_below HR1.out HB.out) | (with_reducible refine Kd.C_alloc ?_ _) | (with_reducible refine Kd.C_drewN ?_ _) | (with_reducible refine Kd.C_drew ?_))); (case side2 => exact HC1.out); rintro e w68 ⟨rfl, hb⟩; refine ⟨_, rfl, ?_⟩; have n0_ := Aside0.mk (blk_below (g := gb262) (o := .cells #[.int .i64 a0_0, .int .i64 a0_1, .int .i64 a0_2, .int .i64 a0_3, .int .i64 a0_4, .bool a0_5] 37 (0, 0)) (by (with_reducible repeat (first | refine blk_drewN ?_ _ | refine blk_drew ?_ | refine blk_alloc ?_ _)); exact BK262.out) hb); have n1_ := Aside0.mk (below_step (by repeat (first | (with_reducible first | exact HB.out | apply below_alloc | apply pw_below_drewN | apply below_drew1 | refine below_set ?_ GE262.out) | exact HB.out)) hb); clear BK262; clear HB; have BK262 := n0_; have HB := n1_; clear n0_ n1_; (try clear hb); (try clear hb2); (try clear hk); (try clear hi); have hcz69_0 : w68.cell? ⟨gb262, 0, none⟩ = some (.int .i64 a0_0) := (blk_cell BK262.out 0).trans rfl; have hcz69_1 : w68.cell? ⟨gb262, 1, none⟩ = some (.int .i64 a0_1) := (blk_cell BK262.out 1).trans rfl; have hcz69_2 : w68.cell? ⟨gb262, 2, none⟩ = some (.int .i64 a0_2) := (blk_cell BK262.out 2).trans rfl; have hcz69_3 : w68.cell? ⟨gb262, 3, none⟩ = some (.int .i64 a0_3) := (blk_cell BK262.out 3).trans rfl; have hcz69_4 : w68.cell? ⟨gb262, 4, none⟩ = some (.int .i64 a0_4) := (blk_cell BK262.out 4).trans rfl; have hcz69_5 : w68.cell? ⟨gb262, 5, none⟩ = some (.bool a0_5) := (blk_cell BK262.out 5).trans rfl; have hfz69_0 := blk_frozen BK262.out 0; have hfz69_1 := blk_frozen BK262.out 1; have hfz69_2 := blk_frozen BK262.out 2; have hfz69_3 := blk_frozen BK262.out 3; have hfz69_4 := blk_frozen BK262.out 4; have hfz69_5 := blk_frozen BK262.out 5) | ((with_reducible refine gate_callee (f := 15) rfl ?_); refine goesL_ (some 41) rfl rfl Try.func15 (by kernel_rfl) rfl #[.agg #[.int .i64 a0_0, .int .i64 a0_1, .int .i64 a0_2, .int .i64 a0_3, .int .i64 a0_4, .bool a0_5], .slice none 0 0, .int .i64 a2] rfl (by (try simp only [List.map_toArray, List.map_cons, List.map_nil]); first | done | rfl | (simp only [List.length_drop, List.length_take]; rfl)) ?_; (refine (glyf_High.calls k1 a0_0 a0_1 a0_2 a0_3 a0_4 a0_5 _ _ ([] : List (S30)) a2 t269 t270 t271 _ ?side1 ?side2 A16.out).mono ?_); (case side1 => exact Kd.C_nil _ _); (case side2 => exact Nat.le_refl _); rintro e w70 ⟨rfl, hb⟩; refine ⟨_, rfl, ?_⟩; have n0_ := Aside0.mk (blk_below (g := gb262) (o := .cells #[.int .i64 a0_0, .int .i64 a0_1, .int .i64 a0_2, .int .i64 a0_3, .int .i64 a0_4, .bool a0_5] 37 (0, 0)) (by (with_reducible repeat (first | refine blk_drewN ?_ _ | refine blk_drew ?_ | refine blk_alloc ?_ _)); exact BK262.out) hb); have n1_ := Aside0.mk (below_step (by repeat (first | (with_reducible first | exact HB.out | apply below_alloc | apply pw_below_drewN | apply below_drew1 | refine below_set ?_ GE262.out) | exact HB.out)) hb); clear BK262; clear HB; have BK262 := n0_; have HB := n1_; clear n0_ n1_; (try clear hb); (try clear hb2); (try clear hk); (try clear hi)) | ((with_reducible refine gate_callee (f := 13) rfl ?_); refine goesL_ (some 77) rfl rfl Try.func13 (by kernel_rfl) rfl #[] rfl (by (try simp only [List.map_toArray, List.map_cons, List.map_nil]); first | done | rfl | (simp only [List.length_drop, List.length_take]; rfl)) ?_; (with_reducible refine (vinculumlaw07_drawn.calls k1  false _ A18.out).mono ?_); rintro e w71 ⟨rfl, hb⟩; refine ⟨_, rfl, ?_⟩; have n0_ := Aside0.mk (blk_below (g := gb262) (o := .cells #[.int .i64 a0_0, .int .i64 a0_1, .int .i64 a0_2, .int .i64 a0_3, .int .i64 a0_4, .bool a0_5] 37 (0, 0)) (by (with_reducible repeat (first | refine blk_drewN ?_ _ | refine blk_drew ?_ | refine blk_alloc ?_ _)); exact BK262.out) hb); have n1_ := Aside0.mk (below_step (by repeat (first | (with_reducible first | exact HB.out | apply below_alloc | apply pw_below_drewN | apply below_drew1 | refine below_set ?_ GE262.out) | exact HB.out)) hb); clear BK262; clear HB; have BK262 := n0_; have HB := n1_; clear n0_ n1_; (try clear hb); (try clear hb2); (try clear hk); (try clear hi)))
              go_ret
              exact ⟨by first | rfl | (simp [errW_none, errW_some] <;> rfl) | (simp [*, errW_none, errW_some] <;> rfl), by repeat (first | (with_reducible first | exact HB.out | apply below_alloc | apply pw_below_drewN | apply below_drew1 | refine below_set ?_ GE262.out) | exact HB.out)⟩
          · rw [if_neg c17] at H
            have c17b0 : (t268 == 0) = false := beq_eq_false_iff_ne.mpr c17
            have c17b1 : (t268 != 0) = true := bne_iff_ne.mpr c17
            replace H := Option.bind_eq_some_iff.mp H
            obtain ⟨t273, A720, H⟩ := H
            replace H : (if t273 = true then (if t266 = 0 then (if t267 = 0 then ((head_Is.f a0_0 a0_1 a0_2 a0_3 a0_4 a0_5).bind fun t274 => (if t274 = true then (if a2 < 0 then (some true) else (if a2 ≥ a0_1 then (some true) else (some (decide (a2 ≥ (l1.length : Int)))))) else (some true))) else (some false)) else (some false)) else (some false)) = some r := H
            have A72 := Aside0.mk A720
            clear A720
            by_cases c73 : t273 = true
            · subst c73
              have H1 : (if t266 = 0 then (if t267 = 0 then ((head_Is.f a0_0 a0_1 a0_2 a0_3 a0_4 a0_5).bind fun t274 => (if t274 = true then (if a2 < 0 then (some true) else (if a2 ≥ a0_1 then (some true) else (some (decide (a2 ≥ (l1.length : Int)))))) else (some true))) else (some false)) else (some false)) = some r := by rw [if_pos rfl] at H; exact H
              clear H
              have H := H1
              clear H1
              by_cases c74 : t266 = 0
              · rw [if_pos c74] at H
                have c74b0 : (t266 == 0) = true := beq_iff_eq.mpr c74
                have c74b1 : (t266 != 0) = false := bne_eq_false_iff_eq.mpr c74
                clear c74
                by_cases c75 : t267 = 0
                · rw [if_pos c75] at H
                  have c75b0 : (t267 == 0) = true := beq_iff_eq.mpr c75
                  have c75b1 : (t267 != 0) = false := bne_eq_false_iff_eq.mpr c75
                  clear c75
                  replace H := Option.bind_eq_some_iff.mp H
                  obtain ⟨t274, A760, H⟩ := H
                  replace H : (if t274 = true then (if a2 < 0 then (some true) else (if a2 ≥ a0_1 then (some true) else (some (decide (a2 ≥ (l1.length : Int)))))) else (some true)) = some r := H
                  have A76 := Aside0.mk A760
                  clear A760
                  by_cases c77 : t274 = true
                  · subst c77
                    have H1 : (if a2 < 0 then (some true) else (if a2 ≥ a0_1 then (some true) else (some (decide (a2 ≥ (l1.length : Int)))))) = some r := by rw [if_pos rfl] at H; exact H
                    clear H
                    have H := H1
                    clear H1
                    by_cases c78 : a2 < 0
                    · rw [if_pos c78] at H
                      have c78b0 : decide (a2 < 0) = true := decide_eq_true c78
                      clear c78
                      obtain rfl := Option.some.inj H
                      have hcz79_0 : wr.cell? ⟨gb262, 0, none⟩ = some (.int .i64 a0_0) := (blk_cell BK262.out 0).trans rfl
                      have hcz79_1 : wr.cell? ⟨gb262, 1, none⟩ = some (.int .i64 a0_1) := (blk_cell BK262.out 1).trans rfl
                      have hcz79_2 : wr.cell? ⟨gb262, 2, none⟩ = some (.int .i64 a0_2) := (blk_cell BK262.out 2).trans rfl
                      have hcz79_3 : wr.cell? ⟨gb262, 3, none⟩ = some (.int .i64 a0_3) := (blk_cell BK262.out 3).trans rfl
                      have hcz79_4 : wr.cell? ⟨gb262, 4, none⟩ = some (.int .i64 a0_4) := (blk_cell BK262.out 4).trans rfl
                      have hcz79_5 : wr.cell? ⟨gb262, 5, none⟩ = some (.bool a0_5) := (blk_cell BK262.out 5).trans rfl
                      have hfz79_0 := blk_frozen BK262.out 0
                      have hfz79_1 := blk_frozen BK262.out 1
                      have hfz79_2 := blk_frozen BK262.out 2
                      have hfz79_3 := blk_frozen BK262.out 3
                      have hfz79_4 := blk_frozen BK262.out 4
                      have hfz79_5 := blk_frozen BK262.out 5
                      go_wp2_with (first | ((with_reducible refine gate_callee (f := 15) rfl ?_); refine goesL_ (some 34) rfl rfl Try.func15 (by kernel_rfl) rfl #[.agg #[.int .i64 a0_0, .int .i64 a0_1, .int .i64 a0_2, .int .i64 a0_3, .int .i64 a0_4, .bool a0_5], .slice A1 l1.length c1, .int .i64 a2] rfl (by (try simp only [List.map_toArray, List.map_cons, List.map_nil]); first | done | rfl | (simp only [List.length_drop, List.length_take]; rfl)) ?_; (with_reducible refine (glyf_High.calls k1 a0_0 a0_1 a0_2 a0_3 a0_4 a0_5 _ _ l1 a2 t266 t267 t268 _ ?side1 ?side2 A15.out).mono ?_); (case side1 => repeat (first | exact (Kd.C_below HR1.out HB.out) | (with_reducible refine Kd.C_alloc ?_ _) | (with_reducible refine Kd.C_drewN ?_ _) | (with_reducible refine Kd.C_drew ?_))); (case side2 => exact HC1.out); rintro e w80 ⟨rfl, hb⟩; refine ⟨_, rfl, ?_⟩; have n0_ := Aside0.mk (blk_below (g := gb262) (o := .cells #[.int .i64 a0_0, .int .i64 a0_1, .int .i64 a0_2, .int .i64 a0_3, .int .i64 a0_4, .bool a0_5] 37 (0, 0)) (by (with_reducible repeat (first | refine blk_drewN ?_ _ | refine blk_drew ?_ | refine blk_alloc ?_ _)); exact BK262.out) hb); have n1_ := Aside0.mk (below_step (by repeat (first | (with_reducible first | exact HB.out | apply below_alloc | apply pw_below_drewN | apply below_drew1 | refine below_set ?_ GE262.out) | exact HB.out)) hb); clear BK262; clear HB; have BK262 := n0_; have HB := n1_; clear n0_ n1_; (try clear hb); (try clear hb2); (try clear hk); (try clear hi); have hcz81_0 : w80.cell? ⟨gb262, 0, none⟩ = some (.int .i64 a0_0) := (blk_cell BK262.out 0).trans rfl; have hcz81_1 : w80.cell? ⟨gb262, 1, none⟩ = some (.int .i64 a0_1) := (blk_cell BK262.out 1).trans rfl; have hcz81_2 : w80.cell? ⟨gb262, 2, none⟩ = some (.int .i64 a0_2) := (blk_cell BK262.out 2).trans rfl; have hcz81_3 : w80.cell? ⟨gb262, 3, none⟩ = some (.int .i64 a0_3) := (blk_cell BK262.out 3).trans rfl; have hcz81_4 : w80.cell? ⟨gb262, 4, none⟩ = some (.int .i64 a0_4) := (blk_cell BK262.out 4).trans rfl; have hcz81_5 : w80.cell? ⟨gb262, 5, none⟩ = some (.bool a0_5) := (blk_cell BK262.out 5).trans rfl; have hfz81_0 := blk_frozen BK262.out 0; have hfz81_1 := blk_frozen BK262.out 1; have hfz81_2 := blk_frozen BK262.out 2; have hfz81_3 := blk_frozen BK262.out 3; have hfz81_4 := blk_frozen BK262.out 4; have hfz81_5 := blk_frozen BK262.out 5) | ((with_reducible refine gate_callee (f := 15) rfl ?_); refine goesL_ (some 41) rfl rfl Try.func15 (by kernel_rfl) rfl #[.agg #[.int .i64 a0_0, .int .i64 a0_1, .int .i64 a0_2, .int .i64 a0_3, .int .i64 a0_4, .bool a0_5], .slice none 0 0, .int .i64 a2] rfl (by (try simp only [List.map_toArray, List.map_cons, List.map_nil]); first | done | rfl | (simp only [List.length_drop, List.length_take]; rfl)) ?_; (refine (glyf_High.calls k1 a0_0 a0_1 a0_2 a0_3 a0_4 a0_5 _ _ ([] : List (S30)) a2 t269 t270 t271 _ ?side1 ?side2 A16.out).mono ?_); (case side1 => exact Kd.C_nil _ _); (case side2 => exact Nat.le_refl _); rintro e w82 ⟨rfl, hb⟩; refine ⟨_, rfl, ?_⟩; have n0_ := Aside0.mk (blk_below (g := gb262) (o := .cells #[.int .i64 a0_0, .int .i64 a0_1, .int .i64 a0_2, .int .i64 a0_3, .int .i64 a0_4, .bool a0_5] 37 (0, 0)) (by (with_reducible repeat (first | refine blk_drewN ?_ _ | refine blk_drew ?_ | refine blk_alloc ?_ _)); exact BK262.out) hb); have n1_ := Aside0.mk (below_step (by repeat (first | (with_reducible first | exact HB.out | apply below_alloc | apply pw_below_drewN | apply below_drew1 | refine below_set ?_ GE262.out) | exact HB.out)) hb); clear BK262; clear HB; have BK262 := n0_; have HB := n1_; clear n0_ n1_; (try clear hb); (try clear hb2); (try clear hk); (try clear hi)) | ((with_reducible refine gate_callee (f := 13) rfl ?_); refine goesL_ (some 47) rfl rfl Try.func13 (by kernel_rfl) rfl #[] rfl (by (try simp only [List.map_toArray, List.map_cons, List.map_nil]); first | done | rfl | (simp only [List.length_drop, List.length_take]; rfl)) ?_; (with_reducible refine (vinculumlaw07_drawn.calls k1  true _ A72.out).mono ?_); rintro e w83 ⟨rfl, hb⟩; refine ⟨_, rfl, ?_⟩; have n0_ := Aside0.mk (blk_below (g := gb262) (o := .cells #[.int .i64 a0_0, .int .i64 a0_1, .int .i64 a0_2, .int .i64 a0_3, .int .i64 a0_4, .bool a0_5] 37 (0, 0)) (by (with_reducible repeat (first | refine blk_drewN ?_ _ | refine blk_drew ?_ | refine blk_alloc ?_ _)); exact BK262.out) hb); have n1_ := Aside0.mk (below_step (by repeat (first | (with_reducible first | exact HB.out | apply below_alloc | apply pw_below_drewN | apply below_drew1 | refine below_set ?_ GE262.out) | exact HB.out)) hb); clear BK262; clear HB; have BK262 := n0_; have HB := n1_; clear n0_ n1_; (try clear hb); (try clear hb2); (try clear hk); (try clear hi); have hcz84_0 : w83.cell? ⟨gb262, 0, none⟩ = some (.int .i64 a0_0) := (blk_cell BK262.out 0).trans rfl; have hcz84_1 : w83.cell? ⟨gb262, 1, none⟩ = some (.int .i64 a0_1) := (blk_cell BK262.out 1).trans rfl; have hcz84_2 : w83.cell? ⟨gb262, 2, none⟩ = some (.int .i64 a0_2) := (blk_cell BK262.out 2).trans rfl; have hcz84_3 : w83.cell? ⟨gb262, 3, none⟩ = some (.int .i64 a0_3) := (blk_cell BK262.out 3).trans rfl; have hcz84_4 : w83.cell? ⟨gb262, 4, none⟩ = some (.int .i64 a0_4) := (blk_cell BK262.out 4).trans rfl; have hcz84_5 : w83.cell? ⟨gb262, 5, none⟩ = some (.bool a0_5) := (blk_cell BK262.out 5).trans rfl; have hfz84_0 := blk_frozen BK262.out 0; have hfz84_1 := blk_frozen BK262.out 1; have hfz84_2 := blk_frozen BK262.out 2; have hfz84_3 := blk_frozen BK262.out 3; have hfz84_4 := blk_frozen BK262.out 4; have hfz84_5 := blk_frozen BK262.out 5) | (go_at_call 16; (with_reducible refine (head_Is.calls a0_0 a0_1 a0_2 a0_3 a0_4 a0_5 true _ A76.out).mono ?_); rintro e w85 ⟨rfl, hb⟩; have n0_ := Aside0.mk (blk_below (g := gb262) (o := .cells #[.int .i64 a0_0, .int .i64 a0_1, .int .i64 a0_2, .int .i64 a0_3, .int .i64 a0_4, .bool a0_5] 37 (0, 0)) (by (with_reducible repeat (first | refine blk_drewN ?_ _ | refine blk_drew ?_ | refine blk_alloc ?_ _)); exact BK262.out) hb); have n1_ := Aside0.mk (below_step (by repeat (first | (with_reducible first | exact HB.out | apply below_alloc | apply pw_below_drewN | apply below_drew1 | refine below_set ?_ GE262.out) | exact HB.out)) hb); clear BK262; clear HB; have BK262 := n0_; have HB := n1_; clear n0_ n1_; (try clear hb); (try clear hb2); (try clear hk); (try clear hi)))
                      go_ret
                      exact ⟨by first | rfl | (simp [errW_none, errW_some] <;> rfl) | (simp [*, errW_none, errW_some] <;> rfl), by repeat (first | (with_reducible first | exact HB.out | apply below_alloc | apply pw_below_drewN | apply below_drew1 | refine below_set ?_ GE262.out) | exact HB.out)⟩
                    · rw [if_neg c78] at H
                      have c78b0 : decide (a2 < 0) = false := decide_eq_false c78
                      clear c78
                      by_cases c86 : a2 ≥ a0_1
                      · rw [if_pos c86] at H
                        have c86b0 : decide (a0_1 ≤ a2) = true := decide_eq_true c86
                        clear c86
                        obtain rfl := Option.some.inj H
                        have hcz87_0 : wr.cell? ⟨gb262, 0, none⟩ = some (.int .i64 a0_0) := (blk_cell BK262.out 0).trans rfl
                        have hcz87_1 : wr.cell? ⟨gb262, 1, none⟩ = some (.int .i64 a0_1) := (blk_cell BK262.out 1).trans rfl
                        have hcz87_2 : wr.cell? ⟨gb262, 2, none⟩ = some (.int .i64 a0_2) := (blk_cell BK262.out 2).trans rfl
                        have hcz87_3 : wr.cell? ⟨gb262, 3, none⟩ = some (.int .i64 a0_3) := (blk_cell BK262.out 3).trans rfl
                        have hcz87_4 : wr.cell? ⟨gb262, 4, none⟩ = some (.int .i64 a0_4) := (blk_cell BK262.out 4).trans rfl
                        have hcz87_5 : wr.cell? ⟨gb262, 5, none⟩ = some (.bool a0_5) := (blk_cell BK262.out 5).trans rfl
                        have hfz87_0 := blk_frozen BK262.out 0
                        have hfz87_1 := blk_frozen BK262.out 1
                        have hfz87_2 := blk_frozen BK262.out 2
                        have hfz87_3 := blk_frozen BK262.out 3
                        have hfz87_4 := blk_frozen BK262.out 4
                        have hfz87_5 := blk_frozen BK262.out 5
                        go_wp2_with (first | ((with_reducible refine gate_callee (f := 15) rfl ?_); refine goesL_ (some 34) rfl rfl Try.func15 (by kernel_rfl) rfl #[.agg #[.int .i64 a0_0, .int .i64 a0_1, .int .i64 a0_2, .int .i64 a0_3, .int .i64 a0_4, .bool a0_5], .slice A1 l1.length c1, .int .i64 a2] rfl (by (try simp only [List.map_toArray, List.map_cons, List.map_nil]); first | done | rfl | (simp only [List.length_drop, List.length_take]; rfl)) ?_; (with_reducible refine (glyf_High.calls k1 a0_0 a0_1 a0_2 a0_3 a0_4 a0_5 _ _ l1 a2 t266 t267 t268 _ ?side1 ?side2 A15.out).mono ?_); (case side1 => repeat (first | exact (Kd.C_below HR1.out HB.out) | (with_reducible refine Kd.C_alloc ?_ _) | (with_reducible refine Kd.C_drewN ?_ _) | (with_reducible refine Kd.C_drew ?_))); (case side2 => exact HC1.out); rintro e w88 ⟨rfl, hb⟩; refine ⟨_, rfl, ?_⟩; have n0_ := Aside0.mk (blk_below (g := gb262) (o := .cells #[.int .i64 a0_0, .int .i64 a0_1, .int .i64 a0_2, .int .i64 a0_3, .int .i64 a0_4, .bool a0_5] 37 (0, 0)) (by (with_reducible repeat (first | refine blk_drewN ?_ _ | refine blk_drew ?_ | refine blk_alloc ?_ _)); exact BK262.out) hb); have n1_ := Aside0.mk (below_step (by repeat (first | (with_reducible first | exact HB.out | apply below_alloc | apply pw_below_drewN | apply below_drew1 | refine below_set ?_ GE262.out) | exact HB.out)) hb); clear BK262; clear HB; have BK262 := n0_; have HB := n1_; clear n0_ n1_; (try clear hb); (try clear hb2); (try clear hk); (try clear hi); have hcz89_0 : w88.cell? ⟨gb262, 0, none⟩ = some (.int .i64 a0_0) := (blk_cell BK262.out 0).trans rfl; have hcz89_1 : w88.cell? ⟨gb262, 1, none⟩ = some (.int .i64 a0_1) := (blk_cell BK262.out 1).trans rfl; have hcz89_2 : w88.cell? ⟨gb262, 2, none⟩ = some (.int .i64 a0_2) := (blk_cell BK262.out 2).trans rfl; have hcz89_3 : w88.cell? ⟨gb262, 3, none⟩ = some (.int .i64 a0_3) := (blk_cell BK262.out 3).trans rfl; have hcz89_4 : w88.cell? ⟨gb262, 4, none⟩ = some (.int .i64 a0_4) := (blk_cell BK262.out 4).trans rfl; have hcz89_5 : w88.cell? ⟨gb262, 5, none⟩ = some (.bool a0_5) := (blk_cell BK262.out 5).trans rfl; have hfz89_0 := blk_frozen BK262.out 0; have hfz89_1 := blk_frozen BK262.out 1; have hfz89_2 := blk_frozen BK262.out 2; have hfz89_3 := blk_frozen BK262.out 3; have hfz89_4 := blk_frozen BK262.out 4; have hfz89_5 := blk_frozen BK262.out 5) | ((with_reducible refine gate_callee (f := 15) rfl ?_); refine goesL_ (some 41) rfl rfl Try.func15 (by kernel_rfl) rfl #[.agg #[.int .i64 a0_0, .int .i64 a0_1, .int .i64 a0_2, .int .i64 a0_3, .int .i64 a0_4, .bool a0_5], .slice none 0 0, .int .i64 a2] rfl (by (try simp only [List.map_toArray, List.map_cons, List.map_nil]); first | done | rfl | (simp only [List.length_drop, List.length_take]; rfl)) ?_; (refine (glyf_High.calls k1 a0_0 a0_1 a0_2 a0_3 a0_4 a0_5 _ _ ([] : List (S30)) a2 t269 t270 t271 _ ?side1 ?side2 A16.out).mono ?_); (case side1 => exact Kd.C_nil _ _); (case side2 => exact Nat.le_refl _); rintro e w90 ⟨rfl, hb⟩; refine ⟨_, rfl, ?_⟩; have n0_ := Aside0.mk (blk_below (g := gb262) (o := .cells #[.int .i64 a0_0, .int .i64 a0_1, .int .i64 a0_2, .int .i64 a0_3, .int .i64 a0_4, .bool a0_5] 37 (0, 0)) (by (with_reducible repeat (first | refine blk_drewN ?_ _ | refine blk_drew ?_ | refine blk_alloc ?_ _)); exact BK262.out) hb); have n1_ := Aside0.mk (below_step (by repeat (first | (with_reducible first | exact HB.out | apply below_alloc | apply pw_below_drewN | apply below_drew1 | refine below_set ?_ GE262.out) | exact HB.out)) hb); clear BK262; clear HB; have BK262 := n0_; have HB := n1_; clear n0_ n1_; (try clear hb); (try clear hb2); (try clear hk); (try clear hi)) | ((with_reducible refine gate_callee (f := 13) rfl ?_); refine goesL_ (some 47) rfl rfl Try.func13 (by kernel_rfl) rfl #[] rfl (by (try simp only [List.map_toArray, List.map_cons, List.map_nil]); first | done | rfl | (simp only [List.length_drop, List.length_take]; rfl)) ?_; (with_reducible refine (vinculumlaw07_drawn.calls k1  true _ A72.out).mono ?_); rintro e w91 ⟨rfl, hb⟩; refine ⟨_, rfl, ?_⟩; have n0_ := Aside0.mk (blk_below (g := gb262) (o := .cells #[.int .i64 a0_0, .int .i64 a0_1, .int .i64 a0_2, .int .i64 a0_3, .int .i64 a0_4, .bool a0_5] 37 (0, 0)) (by (with_reducible repeat (first | refine blk_drewN ?_ _ | refine blk_drew ?_ | refine blk_alloc ?_ _)); exact BK262.out) hb); have n1_ := Aside0.mk (below_step (by repeat (first | (with_reducible first | exact HB.out | apply below_alloc | apply pw_below_drewN | apply below_drew1 | refine below_set ?_ GE262.out) | exact HB.out)) hb); clear BK262; clear HB; have BK262 := n0_; have HB := n1_; clear n0_ n1_; (try clear hb); (try clear hb2); (try clear hk); (try clear hi); have hcz92_0 : w91.cell? ⟨gb262, 0, none⟩ = some (.int .i64 a0_0) := (blk_cell BK262.out 0).trans rfl; have hcz92_1 : w91.cell? ⟨gb262, 1, none⟩ = some (.int .i64 a0_1) := (blk_cell BK262.out 1).trans rfl; have hcz92_2 : w91.cell? ⟨gb262, 2, none⟩ = some (.int .i64 a0_2) := (blk_cell BK262.out 2).trans rfl; have hcz92_3 : w91.cell? ⟨gb262, 3, none⟩ = some (.int .i64 a0_3) := (blk_cell BK262.out 3).trans rfl; have hcz92_4 : w91.cell? ⟨gb262, 4, none⟩ = some (.int .i64 a0_4) := (blk_cell BK262.out 4).trans rfl; have hcz92_5 : w91.cell? ⟨gb262, 5, none⟩ = some (.bool a0_5) := (blk_cell BK262.out 5).trans rfl; have hfz92_0 := blk_frozen BK262.out 0; have hfz92_1 := blk_frozen BK262.out 1; have hfz92_2 := blk_frozen BK262.out 2; have hfz92_3 := blk_frozen BK262.out 3; have hfz92_4 := blk_frozen BK262.out 4; have hfz92_5 := blk_frozen BK262.out 5) | (go_at_call 16; (with_reducible refine (head_Is.calls a0_0 a0_1 a0_2 a0_3 a0_4 a0_5 true _ A76.out).mono ?_); rintro e w93 ⟨rfl, hb⟩; have n0_ := Aside0.mk (blk_below (g := gb262) (o := .cells #[.int .i64 a0_0, .int .i64 a0_1, .int .i64 a0_2, .int .i64 a0_3, .int .i64 a0_4, .bool a0_5] 37 (0, 0)) (by (with_reducible repeat (first | refine blk_drewN ?_ _ | refine blk_drew ?_ | refine blk_alloc ?_ _)); exact BK262.out) hb); have n1_ := Aside0.mk (below_step (by repeat (first | (with_reducible first | exact HB.out | apply below_alloc | apply pw_below_drewN | apply below_drew1 | refine below_set ?_ GE262.out) | exact HB.out)) hb); clear BK262; clear HB; have BK262 := n0_; have HB := n1_; clear n0_ n1_; (try clear hb); (try clear hb2); (try clear hk); (try clear hi); have hcz94_0 : w93.cell? ⟨gb262, 0, none⟩ = some (.int .i64 a0_0) := (blk_cell BK262.out 0).trans rfl; have hcz94_1 : w93.cell? ⟨gb262, 1, none⟩ = some (.int .i64 a0_1) := (blk_cell BK262.out 1).trans rfl; have hcz94_2 : w93.cell? ⟨gb262, 2, none⟩ = some (.int .i64 a0_2) := (blk_cell BK262.out 2).trans rfl; have hcz94_3 : w93.cell? ⟨gb262, 3, none⟩ = some (.int .i64 a0_3) := (blk_cell BK262.out 3).trans rfl; have hcz94_4 : w93.cell? ⟨gb262, 4, none⟩ = some (.int .i64 a0_4) := (blk_cell BK262.out 4).trans rfl; have hcz94_5 : w93.cell? ⟨gb262, 5, none⟩ = some (.bool a0_5) := (blk_cell BK262.out 5).trans rfl; have hfz94_0 := blk_frozen BK262.out 0; have hfz94_1 := blk_frozen BK262.out 1; have hfz94_2 := blk_frozen BK262.out 2; have hfz94_3 := blk_frozen BK262.out 3; have hfz94_4 := blk_frozen BK262.out 4; have hfz94_5 := blk_frozen BK262.out 5))
                        go_ret
                        exact ⟨by first | rfl | (simp [errW_none, errW_some] <;> rfl) | (simp [*, errW_none, errW_some] <;> rfl), by repeat (first | (with_reducible first | exact HB.out | apply below_alloc | apply pw_below_drewN | apply below_drew1 | refine below_set ?_ GE262.out) | exact HB.out)⟩
                      · rw [if_neg c86] at H
                        have c86b0 : decide (a0_1 ≤ a2) = false := decide_eq_false c86
                        clear c86
                        obtain rfl := Option.some.inj H
                        have hcz95_0 : wr.cell? ⟨gb262, 0, none⟩ = some (.int .i64 a0_0) := (blk_cell BK262.out 0).trans rfl
                        have hcz95_1 : wr.cell? ⟨gb262, 1, none⟩ = some (.int .i64 a0_1) := (blk_cell BK262.out 1).trans rfl
                        have hcz95_2 : wr.cell? ⟨gb262, 2, none⟩ = some (.int .i64 a0_2) := (blk_cell BK262.out 2).trans rfl
                        have hcz95_3 : wr.cell? ⟨gb262, 3, none⟩ = some (.int .i64 a0_3) := (blk_cell BK262.out 3).trans rfl
                        have hcz95_4 : wr.cell? ⟨gb262, 4, none⟩ = some (.int .i64 a0_4) := (blk_cell BK262.out 4).trans rfl
                        have hcz95_5 : wr.cell? ⟨gb262, 5, none⟩ = some (.bool a0_5) := (blk_cell BK262.out 5).trans rfl
                        have hfz95_0 := blk_frozen BK262.out 0
                        have hfz95_1 := blk_frozen BK262.out 1
                        have hfz95_2 := blk_frozen BK262.out 2
                        have hfz95_3 := blk_frozen BK262.out 3
                        have hfz95_4 := blk_frozen BK262.out 4
                        have hfz95_5 := blk_frozen BK262.out 5
                        go_wp2_with (first | ((with_reducible refine gate_callee (f := 15) rfl ?_); refine goesL_ (some 34) rfl rfl Try.func15 (by kernel_rfl) rfl #[.agg #[.int .i64 a0_0, .int .i64 a0_1, .int .i64 a0_2, .int .i64 a0_3, .int .i64 a0_4, .bool a0_5], .slice A1 l1.length c1, .int .i64 a2] rfl (by (try simp only [List.map_toArray, List.map_cons, List.map_nil]); first | done | rfl | (simp only [List.length_drop, List.length_take]; rfl)) ?_; (with_reducible refine (glyf_High.calls k1 a0_0 a0_1 a0_2 a0_3 a0_4 a0_5 _ _ l1 a2 t266 t267 t268 _ ?side1 ?side2 A15.out).mono ?_); (case side1 => repeat (first | exact (Kd.C_below HR1.out HB.out) | (with_reducible refine Kd.C_alloc ?_ _) | (with_reducible refine Kd.C_drewN ?_ _) | (with_reducible refine Kd.C_drew ?_))); (case side2 => exact HC1.out); rintro e w96 ⟨rfl, hb⟩; refine ⟨_, rfl, ?_⟩; have n0_ := Aside0.mk (blk_below (g := gb262) (o := .cells #[.int .i64 a0_0, .int .i64 a0_1, .int .i64 a0_2, .int .i64 a0_3, .int .i64 a0_4, .bool a0_5] 37 (0, 0)) (by (with_reducible repeat (first | refine blk_drewN ?_ _ | refine blk_drew ?_ | refine blk_alloc ?_ _)); exact BK262.out) hb); have n1_ := Aside0.mk (below_step (by repeat (first | (with_reducible first | exact HB.out | apply below_alloc | apply pw_below_drewN | apply below_drew1 | refine below_set ?_ GE262.out) | exact HB.out)) hb); clear BK262; clear HB; have BK262 := n0_; have HB := n1_; clear n0_ n1_; (try clear hb); (try clear hb2); (try clear hk); (try clear hi); have hcz97_0 : w96.cell? ⟨gb262, 0, none⟩ = some (.int .i64 a0_0) := (blk_cell BK262.out 0).trans rfl; have hcz97_1 : w96.cell? ⟨gb262, 1, none⟩ = some (.int .i64 a0_1) := (blk_cell BK262.out 1).trans rfl; have hcz97_2 : w96.cell? ⟨gb262, 2, none⟩ = some (.int .i64 a0_2) := (blk_cell BK262.out 2).trans rfl; have hcz97_3 : w96.cell? ⟨gb262, 3, none⟩ = some (.int .i64 a0_3) := (blk_cell BK262.out 3).trans rfl; have hcz97_4 : w96.cell? ⟨gb262, 4, none⟩ = some (.int .i64 a0_4) := (blk_cell BK262.out 4).trans rfl; have hcz97_5 : w96.cell? ⟨gb262, 5, none⟩ = some (.bool a0_5) := (blk_cell BK262.out 5).trans rfl; have hfz97_0 := blk_frozen BK262.out 0; have hfz97_1 := blk_frozen BK262.out 1; have hfz97_2 := blk_frozen BK262.out 2; have hfz97_3 := blk_frozen BK262.out 3; have hfz97_4 := blk_frozen BK262.out 4; have hfz97_5 := blk_frozen BK262.out 5) | ((with_reducible refine gate_callee (f := 15) rfl ?_); refine goesL_ (some 41) rfl rfl Try.func15 (by kernel_rfl) rfl #[.agg #[.int .i64 a0_0, .int .i64 a0_1, .int .i64 a0_2, .int .i64 a0_3, .int .i64 a0_4, .bool a0_5], .slice none 0 0, .int .i64 a2] rfl (by (try simp only [List.map_toArray, List.map_cons, List.map_nil]); first | done | rfl | (simp only [List.length_drop, List.length_take]; rfl)) ?_; (refine (glyf_High.calls k1 a0_0 a0_1 a0_2 a0_3 a0_4 a0_5 _ _ ([] : List (S30)) a2 t269 t270 t271 _ ?side1 ?side2 A16.out).mono ?_); (case side1 => exact Kd.C_nil _ _); (case side2 => exact Nat.le_refl _); rintro e w98 ⟨rfl, hb⟩; refine ⟨_, rfl, ?_⟩; have n0_ := Aside0.mk (blk_below (g := gb262) (o := .cells #[.int .i64 a0_0, .int .i64 a0_1, .int .i64 a0_2, .int .i64 a0_3, .int .i64 a0_4, .bool a0_5] 37 (0, 0)) (by (with_reducible repeat (first | refine blk_drewN ?_ _ | refine blk_drew ?_ | refine blk_alloc ?_ _)); exact BK262.out) hb); have n1_ := Aside0.mk (below_step (by repeat (first | (with_reducible first | exact HB.out | apply below_alloc | apply pw_below_drewN | apply below_drew1 | refine below_set ?_ GE262.out) | exact HB.out)) hb); clear BK262; clear HB; have BK262 := n0_; have HB := n1_; clear n0_ n1_; (try clear hb); (try clear hb2); (try clear hk); (try clear hi)) | ((with_reducible refine gate_callee (f := 13) rfl ?_); refine goesL_ (some 47) rfl rfl Try.func13 (by kernel_rfl) rfl #[] rfl (by (try simp only [List.map_toArray, List.map_cons, List.map_nil]); first | done | rfl | (simp only [List.length_drop, List.length_take]; rfl)) ?_; (with_reducible refine (vinculumlaw07_drawn.calls k1  true _ A72.out).mono ?_); rintro e w99 ⟨rfl, hb⟩; refine ⟨_, rfl, ?_⟩; have n0_ := Aside0.mk (blk_below (g := gb262) (o := .cells #[.int .i64 a0_0, .int .i64 a0_1, .int .i64 a0_2, .int .i64 a0_3, .int .i64 a0_4, .bool a0_5] 37 (0, 0)) (by (with_reducible repeat (first | refine blk_drewN ?_ _ | refine blk_drew ?_ | refine blk_alloc ?_ _)); exact BK262.out) hb); have n1_ := Aside0.mk (below_step (by repeat (first | (with_reducible first | exact HB.out | apply below_alloc | apply pw_below_drewN | apply below_drew1 | refine below_set ?_ GE262.out) | exact HB.out)) hb); clear BK262; clear HB; have BK262 := n0_; have HB := n1_; clear n0_ n1_; (try clear hb); (try clear hb2); (try clear hk); (try clear hi); have hcz100_0 : w99.cell? ⟨gb262, 0, none⟩ = some (.int .i64 a0_0) := (blk_cell BK262.out 0).trans rfl; have hcz100_1 : w99.cell? ⟨gb262, 1, none⟩ = some (.int .i64 a0_1) := (blk_cell BK262.out 1).trans rfl; have hcz100_2 : w99.cell? ⟨gb262, 2, none⟩ = some (.int .i64 a0_2) := (blk_cell BK262.out 2).trans rfl; have hcz100_3 : w99.cell? ⟨gb262, 3, none⟩ = some (.int .i64 a0_3) := (blk_cell BK262.out 3).trans rfl; have hcz100_4 : w99.cell? ⟨gb262, 4, none⟩ = some (.int .i64 a0_4) := (blk_cell BK262.out 4).trans rfl; have hcz100_5 : w99.cell? ⟨gb262, 5, none⟩ = some (.bool a0_5) := (blk_cell BK262.out 5).trans rfl; have hfz100_0 := blk_frozen BK262.out 0; have hfz100_1 := blk_frozen BK262.out 1; have hfz100_2 := blk_frozen BK262.out 2; have hfz100_3 := blk_frozen BK262.out 3; have hfz100_4 := blk_frozen BK262.out 4; have hfz100_5 := blk_frozen BK262.out 5) | (go_at_call 16; (with_reducible refine (head_Is.calls a0_0 a0_1 a0_2 a0_3 a0_4 a0_5 true _ A76.out).mono ?_); rintro e w101 ⟨rfl, hb⟩; have n0_ := Aside0.mk (blk_below (g := gb262) (o := .cells #[.int .i64 a0_0, .int .i64 a0_1, .int .i64 a0_2, .int .i64 a0_3, .int .i64 a0_4, .bool a0_5] 37 (0, 0)) (by (with_reducible repeat (first | refine blk_drewN ?_ _ | refine blk_drew ?_ | refine blk_alloc ?_ _)); exact BK262.out) hb); have n1_ := Aside0.mk (below_step (by repeat (first | (with_reducible first | exact HB.out | apply below_alloc | apply pw_below_drewN | apply below_drew1 | refine below_set ?_ GE262.out) | exact HB.out)) hb); clear BK262; clear HB; have BK262 := n0_; have HB := n1_; clear n0_ n1_; (try clear hb); (try clear hb2); (try clear hk); (try clear hi); have hcz102_0 : w101.cell? ⟨gb262, 0, none⟩ = some (.int .i64 a0_0) := (blk_cell BK262.out 0).trans rfl; have hcz102_1 : w101.cell? ⟨gb262, 1, none⟩ = some (.int .i64 a0_1) := (blk_cell BK262.out 1).trans rfl; have hcz102_2 : w101.cell? ⟨gb262, 2, none⟩ = some (.int .i64 a0_2) := (blk_cell BK262.out 2).trans rfl; have hcz102_3 : w101.cell? ⟨gb262, 3, none⟩ = some (.int .i64 a0_3) := (blk_cell BK262.out 3).trans rfl; have hcz102_4 : w101.cell? ⟨gb262, 4, none⟩ = some (.int .i64 a0_4) := (blk_cell BK262.out 4).trans rfl; have hcz102_5 : w101.cell? ⟨gb262, 5, none⟩ = some (.bool a0_5) := (blk_cell BK262.out 5).trans rfl; have hfz102_0 := blk_frozen BK262.out 0; have hfz102_1 := blk_frozen BK262.out 1; have hfz102_2 := blk_frozen BK262.out 2; have hfz102_3 := blk_frozen BK262.out 3; have hfz102_4 := blk_frozen BK262.out 4; have hfz102_5 := blk_frozen BK262.out 5))
                        go_ret
                        exact ⟨by first | rfl | (simp [errW_none, errW_some] <;> rfl) | (simp [*, errW_none, errW_some] <;> rfl), by repeat (first | (with_reducible first | exact HB.out | apply below_alloc | apply pw_below_drewN | apply below_drew1 | refine below_set ?_ GE262.out) | exact HB.out)⟩
                  · replace c77 := Bool.eq_false_iff.mpr c77
                    subst c77
                    have H1 : (some true) = some r := by rw [if_neg (show ¬ (false = true) by decide)] at H; exact H
                    clear H
                    have H := H1
                    clear H1
                    obtain rfl := Option.some.inj H
                    have hcz103_0 : wr.cell? ⟨gb262, 0, none⟩ = some (.int .i64 a0_0) := (blk_cell BK262.out 0).trans rfl
                    have hcz103_1 : wr.cell? ⟨gb262, 1, none⟩ = some (.int .i64 a0_1) := (blk_cell BK262.out 1).trans rfl
                    have hcz103_2 : wr.cell? ⟨gb262, 2, none⟩ = some (.int .i64 a0_2) := (blk_cell BK262.out 2).trans rfl
                    have hcz103_3 : wr.cell? ⟨gb262, 3, none⟩ = some (.int .i64 a0_3) := (blk_cell BK262.out 3).trans rfl
                    have hcz103_4 : wr.cell? ⟨gb262, 4, none⟩ = some (.int .i64 a0_4) := (blk_cell BK262.out 4).trans rfl
                    have hcz103_5 : wr.cell? ⟨gb262, 5, none⟩ = some (.bool a0_5) := (blk_cell BK262.out 5).trans rfl
                    have hfz103_0 := blk_frozen BK262.out 0
                    have hfz103_1 := blk_frozen BK262.out 1
                    have hfz103_2 := blk_frozen BK262.out 2
                    have hfz103_3 := blk_frozen BK262.out 3
                    have hfz103_4 := blk_frozen BK262.out 4
                    have hfz103_5 := blk_frozen BK262.out 5
                    go_wp2_with (first | ((with_reducible refine gate_callee (f := 15) rfl ?_); refine goesL_ (some 34) rfl rfl Try.func15 (by kernel_rfl) rfl #[.agg #[.int .i64 a0_0, .int .i64 a0_1, .int .i64 a0_2, .int .i64 a0_3, .int .i64 a0_4, .bool a0_5], .slice A1 l1.length c1, .int .i64 a2] rfl (by (try simp only [List.map_toArray, List.map_cons, List.map_nil]); first | done | rfl | (simp only [List.length_drop, List.length_take]; rfl)) ?_; (with_reducible refine (glyf_High.calls k1 a0_0 a0_1 a0_2 a0_3 a0_4 a0_5 _ _ l1 a2 t266 t267 t268 _ ?side1 ?side2 A15.out).mono ?_); (case side1 => repeat (first | exact (Kd.C_below HR1.out HB.out) | (with_reducible refine Kd.C_alloc ?_ _) | (with_reducible refine Kd.C_drewN ?_ _) | (with_reducible refine Kd.C_drew ?_))); (case side2 => exact HC1.out); rintro e w104 ⟨rfl, hb⟩; refine ⟨_, rfl, ?_⟩; have n0_ := Aside0.mk (blk_below (g := gb262) (o := .cells #[.int .i64 a0_0, .int .i64 a0_1, .int .i64 a0_2, .int .i64 a0_3, .int .i64 a0_4, .bool a0_5] 37 (0, 0)) (by (with_reducible repeat (first | refine blk_drewN ?_ _ | refine blk_drew ?_ | refine blk_alloc ?_ _)); exact BK262.out) hb); have n1_ := Aside0.mk (below_step (by repeat (first | (with_reducible first | exact HB.out | apply below_alloc | apply pw_below_drewN | apply below_drew1 | refine below_set ?_ GE262.out) | exact HB.out)) hb); clear BK262; clear HB; have BK262 := n0_; have HB := n1_; clear n0_ n1_; (try clear hb); (try clear hb2); (try clear hk); (try clear hi); have hcz105_0 : w104.cell? ⟨gb262, 0, none⟩ = some (.int .i64 a0_0) := (blk_cell BK262.out 0).trans rfl; have hcz105_1 : w104.cell? ⟨gb262, 1, none⟩ = some (.int .i64 a0_1) := (blk_cell BK262.out 1).trans rfl; have hcz105_2 : w104.cell? ⟨gb262, 2, none⟩ = some (.int .i64 a0_2) := (blk_cell BK262.out 2).trans rfl; have hcz105_3 : w104.cell? ⟨gb262, 3, none⟩ = some (.int .i64 a0_3) := (blk_cell BK262.out 3).trans rfl; have hcz105_4 : w104.cell? ⟨gb262, 4, none⟩ = some (.int .i64 a0_4) := (blk_cell BK262.out 4).trans rfl; have hcz105_5 : w104.cell? ⟨gb262, 5, none⟩ = some (.bool a0_5) := (blk_cell BK262.out 5).trans rfl; have hfz105_0 := blk_frozen BK262.out 0; have hfz105_1 := blk_frozen BK262.out 1; have hfz105_2 := blk_frozen BK262.out 2; have hfz105_3 := blk_frozen BK262.out 3; have hfz105_4 := blk_frozen BK262.out 4; have hfz105_5 := blk_frozen BK262.out 5) | ((with_reducible refine gate_callee (f := 15) rfl ?_); refine goesL_ (some 41) rfl rfl Try.func15 (by kernel_rfl) rfl #[.agg #[.int .i64 a0_0, .int .i64 a0_1, .int .i64 a0_2, .int .i64 a0_3, .int .i64 a0_4, .bool a0_5], .slice none 0 0, .int .i64 a2] rfl (by (try simp only [List.map_toArray, List.map_cons, List.map_nil]); first | done | rfl | (simp only [List.length_drop, List.length_take]; rfl)) ?_; (refine (glyf_High.calls k1 a0_0 a0_1 a0_2 a0_3 a0_4 a0_5 _ _ ([] : List (S30)) a2 t269 t270 t271 _ ?side1 ?side2 A16.out).mono ?_); (case side1 => exact Kd.C_nil _ _); (case side2 => exact Nat.le_refl _); rintro e w106 ⟨rfl, hb⟩; refine ⟨_, rfl, ?_⟩; have n0_ := Aside0.mk (blk_below (g := gb262) (o := .cells #[.int .i64 a0_0, .int .i64 a0_1, .int .i64 a0_2, .int .i64 a0_3, .int .i64 a0_4, .bool a0_5] 37 (0, 0)) (by (with_reducible repeat (first | refine blk_drewN ?_ _ | refine blk_drew ?_ | refine blk_alloc ?_ _)); exact BK262.out) hb); have n1_ := Aside0.mk (below_step (by repeat (first | (with_reducible first | exact HB.out | apply below_alloc | apply pw_below_drewN | apply below_drew1 | refine below_set ?_ GE262.out) | exact HB.out)) hb); clear BK262; clear HB; have BK262 := n0_; have HB := n1_; clear n0_ n1_; (try clear hb); (try clear hb2); (try clear hk); (try clear hi)) | ((with_reducible refine gate_callee (f := 13) rfl ?_); refine goesL_ (some 47) rfl rfl Try.func13 (by kernel_rfl) rfl #[] rfl (by (try simp only [List.map_toArray, List.map_cons, List.map_nil]); first | done | rfl | (simp only [List.length_drop, List.length_take]; rfl)) ?_; (with_reducible refine (vinculumlaw07_drawn.calls k1  true _ A72.out).mono ?_); rintro e w107 ⟨rfl, hb⟩; refine ⟨_, rfl, ?_⟩; have n0_ := Aside0.mk (blk_below (g := gb262) (o := .cells #[.int .i64 a0_0, .int .i64 a0_1, .int .i64 a0_2, .int .i64 a0_3, .int .i64 a0_4, .bool a0_5] 37 (0, 0)) (by (with_reducible repeat (first | refine blk_drewN ?_ _ | refine blk_drew ?_ | refine blk_alloc ?_ _)); exact BK262.out) hb); have n1_ := Aside0.mk (below_step (by repeat (first | (with_reducible first | exact HB.out | apply below_alloc | apply pw_below_drewN | apply below_drew1 | refine below_set ?_ GE262.out) | exact HB.out)) hb); clear BK262; clear HB; have BK262 := n0_; have HB := n1_; clear n0_ n1_; (try clear hb); (try clear hb2); (try clear hk); (try clear hi); have hcz108_0 : w107.cell? ⟨gb262, 0, none⟩ = some (.int .i64 a0_0) := (blk_cell BK262.out 0).trans rfl; have hcz108_1 : w107.cell? ⟨gb262, 1, none⟩ = some (.int .i64 a0_1) := (blk_cell BK262.out 1).trans rfl; have hcz108_2 : w107.cell? ⟨gb262, 2, none⟩ = some (.int .i64 a0_2) := (blk_cell BK262.out 2).trans rfl; have hcz108_3 : w107.cell? ⟨gb262, 3, none⟩ = some (.int .i64 a0_3) := (blk_cell BK262.out 3).trans rfl; have hcz108_4 : w107.cell? ⟨gb262, 4, none⟩ = some (.int .i64 a0_4) := (blk_cell BK262.out 4).trans rfl; have hcz108_5 : w107.cell? ⟨gb262, 5, none⟩ = some (.bool a0_5) := (blk_cell BK262.out 5).trans rfl; have hfz108_0 := blk_frozen BK262.out 0; have hfz108_1 := blk_frozen BK262.out 1; have hfz108_2 := blk_frozen BK262.out 2; have hfz108_3 := blk_frozen BK262.out 3; have hfz108_4 := blk_frozen BK262.out 4; have hfz108_5 := blk_frozen BK262.out 5) | (go_at_call 16; (with_reducible refine (head_Is.calls a0_0 a0_1 a0_2 a0_3 a0_4 a0_5 false _ A76.out).mono ?_); rintro e w109 ⟨rfl, hb⟩; have n0_ := Aside0.mk (blk_below (g := gb262) (o := .cells #[.int .i64 a0_0, .int .i64 a0_1, .int .i64 a0_2, .int .i64 a0_3, .int .i64 a0_4, .bool a0_5] 37 (0, 0)) (by (with_reducible repeat (first | refine blk_drewN ?_ _ | refine blk_drew ?_ | refine blk_alloc ?_ _)); exact BK262.out) hb); have n1_ := Aside0.mk (below_step (by repeat (first | (with_reducible first | exact HB.out | apply below_alloc | apply pw_below_drewN | apply below_drew1 | refine below_set ?_ GE262.out) | exact HB.out)) hb); clear BK262; clear HB; have BK262 := n0_; have HB := n1_; clear n0_ n1_; (try clear hb); (try clear hb2); (try clear hk); (try clear hi)))
                    go_ret
                    exact ⟨by first | rfl | (simp [errW_none, errW_some] <;> rfl) | (simp [*, errW_none, errW_some] <;> rfl), by repeat (first | (with_reducible first | exact HB.out | apply below_alloc | apply pw_below_drewN | apply below_drew1 | refine below_set ?_ GE262.out) | exact HB.out)⟩
                · rw [if_neg c75] at H
                  have c75b0 : (t267 == 0) = false := beq_eq_false_iff_ne.mpr c75
                  have c75b1 : (t267 != 0) = true := bne_iff_ne.mpr c75
                  obtain rfl := Option.some.inj H
                  have hcz110_0 : wr.cell? ⟨gb262, 0, none⟩ = some (.int .i64 a0_0) := (blk_cell BK262.out 0).trans rfl
                  have hcz110_1 : wr.cell? ⟨gb262, 1, none⟩ = some (.int .i64 a0_1) := (blk_cell BK262.out 1).trans rfl
                  have hcz110_2 : wr.cell? ⟨gb262, 2, none⟩ = some (.int .i64 a0_2) := (blk_cell BK262.out 2).trans rfl
                  have hcz110_3 : wr.cell? ⟨gb262, 3, none⟩ = some (.int .i64 a0_3) := (blk_cell BK262.out 3).trans rfl
                  have hcz110_4 : wr.cell? ⟨gb262, 4, none⟩ = some (.int .i64 a0_4) := (blk_cell BK262.out 4).trans rfl
                  have hcz110_5 : wr.cell? ⟨gb262, 5, none⟩ = some (.bool a0_5) := (blk_cell BK262.out 5).trans rfl
                  have hfz110_0 := blk_frozen BK262.out 0
                  have hfz110_1 := blk_frozen BK262.out 1
                  have hfz110_2 := blk_frozen BK262.out 2
                  have hfz110_3 := blk_frozen BK262.out 3
                  have hfz110_4 := blk_frozen BK262.out 4
                  have hfz110_5 := blk_frozen BK262.out 5
                  go_wp2_with (first | ((with_reducible refine gate_callee (f := 15) rfl ?_); refine goesL_ (some 34) rfl rfl Try.func15 (by kernel_rfl) rfl #[.agg #[.int .i64 a0_0, .int .i64 a0_1, .int .i64 a0_2, .int .i64 a0_3, .int .i64 a0_4, .bool a0_5], .slice A1 l1.length c1, .int .i64 a2] rfl (by (try simp only [List.map_toArray, List.map_cons, List.map_nil]); first | done | rfl | (simp only [List.length_drop, List.length_take]; rfl)) ?_; (with_reducible refine (glyf_High.calls k1 a0_0 a0_1 a0_2 a0_3 a0_4 a0_5 _ _ l1 a2 t266 t267 t268 _ ?side1 ?side2 A15.out).mono ?_); (case side1 => repeat (first | exact (Kd.C_below HR1.out HB.out) | (with_reducible refine Kd.C_alloc ?_ _) | (with_reducible refine Kd.C_drewN ?_ _) | (with_reducible refine Kd.C_drew ?_))); (case side2 => exact HC1.out); rintro e w111 ⟨rfl, hb⟩; refine ⟨_, rfl, ?_⟩; have n0_ := Aside0.mk (blk_below (g := gb262) (o := .cells #[.int .i64 a0_0, .int .i64 a0_1, .int .i64 a0_2, .int .i64 a0_3, .int .i64 a0_4, .bool a0_5] 37 (0, 0)) (by (with_reducible repeat (first | refine blk_drewN ?_ _ | refine blk_drew ?_ | refine blk_alloc ?_ _)); exact BK262.out) hb); have n1_ := Aside0.mk (below_step (by repeat (first | (with_reducible first | exact HB.out | apply below_alloc | apply pw_below_drewN | apply below_drew1 | refine below_set ?_ GE262.out) | exact HB.out)) hb); clear BK262; clear HB; have BK262 := n0_; have HB := n1_; clear n0_ n1_; (try clear hb); (try clear hb2); (try clear hk); (try clear hi); have hcz112_0 : w111.cell? ⟨gb262, 0, none⟩ = some (.int .i64 a0_0) := (blk_cell BK262.out 0).trans rfl; have hcz112_1 : w111.cell? ⟨gb262, 1, none⟩ = some (.int .i64 a0_1) := (blk_cell BK262.out 1).trans rfl; have hcz112_2 : w111.cell? ⟨gb262, 2, none⟩ = some (.int .i64 a0_2) := (blk_cell BK262.out 2).trans rfl; have hcz112_3 : w111.cell? ⟨gb262, 3, none⟩ = some (.int .i64 a0_3) := (blk_cell BK262.out 3).trans rfl; have hcz112_4 : w111.cell? ⟨gb262, 4, none⟩ = some (.int .i64 a0_4) := (blk_cell BK262.out 4).trans rfl; have hcz112_5 : w111.cell? ⟨gb262, 5, none⟩ = some (.bool a0_5) := (blk_cell BK262.out 5).trans rfl; have hfz112_0 := blk_frozen BK262.out 0; have hfz112_1 := blk_frozen BK262.out 1; have hfz112_2 := blk_frozen BK262.out 2; have hfz112_3 := blk_frozen BK262.out 3; have hfz112_4 := blk_frozen BK262.out 4; have hfz112_5 := blk_frozen BK262.out 5) | ((with_reducible refine gate_callee (f := 15) rfl ?_); refine goesL_ (some 41) rfl rfl Try.func15 (by kernel_rfl) rfl #[.agg #[.int .i64 a0_0, .int .i64 a0_1, .int .i64 a0_2, .int .i64 a0_3, .int .i64 a0_4, .bool a0_5], .slice none 0 0, .int .i64 a2] rfl (by (try simp only [List.map_toArray, List.map_cons, List.map_nil]); first | done | rfl | (simp only [List.length_drop, List.length_take]; rfl)) ?_; (refine (glyf_High.calls k1 a0_0 a0_1 a0_2 a0_3 a0_4 a0_5 _ _ ([] : List (S30)) a2 t269 t270 t271 _ ?side1 ?side2 A16.out).mono ?_); (case side1 => exact Kd.C_nil _ _); (case side2 => exact Nat.le_refl _); rintro e w113 ⟨rfl, hb⟩; refine ⟨_, rfl, ?_⟩; have n0_ := Aside0.mk (blk_below (g := gb262) (o := .cells #[.int .i64 a0_0, .int .i64 a0_1, .int .i64 a0_2, .int .i64 a0_3, .int .i64 a0_4, .bool a0_5] 37 (0, 0)) (by (with_reducible repeat (first | refine blk_drewN ?_ _ | refine blk_drew ?_ | refine blk_alloc ?_ _)); exact BK262.out) hb); have n1_ := Aside0.mk (below_step (by repeat (first | (with_reducible first | exact HB.out | apply below_alloc | apply pw_below_drewN | apply below_drew1 | refine below_set ?_ GE262.out) | exact HB.out)) hb); clear BK262; clear HB; have BK262 := n0_; have HB := n1_; clear n0_ n1_; (try clear hb); (try clear hb2); (try clear hk); (try clear hi)) | ((with_reducible refine gate_callee (f := 13) rfl ?_); refine goesL_ (some 47) rfl rfl Try.func13 (by kernel_rfl) rfl #[] rfl (by (try simp only [List.map_toArray, List.map_cons, List.map_nil]); first | done | rfl | (simp only [List.length_drop, List.length_take]; rfl)) ?_; (with_reducible refine (vinculumlaw07_drawn.calls k1  true _ A72.out).mono ?_); rintro e w114 ⟨rfl, hb⟩; refine ⟨_, rfl, ?_⟩; have n0_ := Aside0.mk (blk_below (g := gb262) (o := .cells #[.int .i64 a0_0, .int .i64 a0_1, .int .i64 a0_2, .int .i64 a0_3, .int .i64 a0_4, .bool a0_5] 37 (0, 0)) (by (with_reducible repeat (first | refine blk_drewN ?_ _ | refine blk_drew ?_ | refine blk_alloc ?_ _)); exact BK262.out) hb); have n1_ := Aside0.mk (below_step (by repeat (first | (with_reducible first | exact HB.out | apply below_alloc | apply pw_below_drewN | apply below_drew1 | refine below_set ?_ GE262.out) | exact HB.out)) hb); clear BK262; clear HB; have BK262 := n0_; have HB := n1_; clear n0_ n1_; (try clear hb); (try clear hb2); (try clear hk); (try clear hi)))
                  go_ret
                  exact ⟨by first | rfl | (simp [errW_none, errW_some] <;> rfl) | (simp [*, errW_none, errW_some] <;> rfl), by repeat (first | (with_reducible first | exact HB.out | apply below_alloc | apply pw_below_drewN | apply below_drew1 | refine below_set ?_ GE262.out) | exact HB.out)⟩
              · rw [if_neg c74] at H
                have c74b0 : (t266 == 0) = false := beq_eq_false_iff_ne.mpr c74
                have c74b1 : (t266 != 0) = true := bne_iff_ne.mpr c74
                obtain rfl := Option.some.inj H
                have hcz115_0 : wr.cell? ⟨gb262, 0, none⟩ = some (.int .i64 a0_0) := (blk_cell BK262.out 0).trans rfl
                have hcz115_1 : wr.cell? ⟨gb262, 1, none⟩ = some (.int .i64 a0_1) := (blk_cell BK262.out 1).trans rfl
                have hcz115_2 : wr.cell? ⟨gb262, 2, none⟩ = some (.int .i64 a0_2) := (blk_cell BK262.out 2).trans rfl
                have hcz115_3 : wr.cell? ⟨gb262, 3, none⟩ = some (.int .i64 a0_3) := (blk_cell BK262.out 3).trans rfl
                have hcz115_4 : wr.cell? ⟨gb262, 4, none⟩ = some (.int .i64 a0_4) := (blk_cell BK262.out 4).trans rfl
                have hcz115_5 : wr.cell? ⟨gb262, 5, none⟩ = some (.bool a0_5) := (blk_cell BK262.out 5).trans rfl
                have hfz115_0 := blk_frozen BK262.out 0
                have hfz115_1 := blk_frozen BK262.out 1
                have hfz115_2 := blk_frozen BK262.out 2
                have hfz115_3 := blk_frozen BK262.out 3
                have hfz115_4 := blk_frozen BK262.out 4
                have hfz115_5 := blk_frozen BK262.out 5
                go_wp2_with (first | ((with_reducible refine gate_callee (f := 15) rfl ?_); refine goesL_ (some 34) rfl rfl Try.func15 (by kernel_rfl) rfl #[.agg #[.int .i64 a0_0, .int .i64 a0_1, .int .i64 a0_2, .int .i64 a0_3, .int .i64 a0_4, .bool a0_5], .slice A1 l1.length c1, .int .i64 a2] rfl (by (try simp only [List.map_toArray, List.map_cons, List.map_nil]); first | done | rfl | (simp only [List.length_drop, List.length_take]; rfl)) ?_; (with_reducible refine (glyf_High.calls k1 a0_0 a0_1 a0_2 a0_3 a0_4 a0_5 _ _ l1 a2 t266 t267 t268 _ ?side1 ?side2 A15.out).mono ?_); (case side1 => repeat (first | exact (Kd.C_below HR1.out HB.out) | (with_reducible refine Kd.C_alloc ?_ _) | (with_reducible refine Kd.C_drewN ?_ _) | (with_reducible refine Kd.C_drew ?_))); (case side2 => exact HC1.out); rintro e w116 ⟨rfl, hb⟩; refine ⟨_, rfl, ?_⟩; have n0_ := Aside0.mk (blk_below (g := gb262) (o := .cells #[.int .i64 a0_0, .int .i64 a0_1, .int .i64 a0_2, .int .i64 a0_3, .int .i64 a0_4, .bool a0_5] 37 (0, 0)) (by (with_reducible repeat (first | refine blk_drewN ?_ _ | refine blk_drew ?_ | refine blk_alloc ?_ _)); exact BK262.out) hb); have n1_ := Aside0.mk (below_step (by repeat (first | (with_reducible first | exact HB.out | apply below_alloc | apply pw_below_drewN | apply below_drew1 | refine below_set ?_ GE262.out) | exact HB.out)) hb); clear BK262; clear HB; have BK262 := n0_; have HB := n1_; clear n0_ n1_; (try clear hb); (try clear hb2); (try clear hk); (try clear hi); have hcz117_0 : w116.cell? ⟨gb262, 0, none⟩ = some (.int .i64 a0_0) := (blk_cell BK262.out 0).trans rfl; have hcz117_1 : w116.cell? ⟨gb262, 1, none⟩ = some (.int .i64 a0_1) := (blk_cell BK262.out 1).trans rfl; have hcz117_2 : w116.cell? ⟨gb262, 2, none⟩ = some (.int .i64 a0_2) := (blk_cell BK262.out 2).trans rfl; have hcz117_3 : w116.cell? ⟨gb262, 3, none⟩ = some (.int .i64 a0_3) := (blk_cell BK262.out 3).trans rfl; have hcz117_4 : w116.cell? ⟨gb262, 4, none⟩ = some (.int .i64 a0_4) := (blk_cell BK262.out 4).trans rfl; have hcz117_5 : w116.cell? ⟨gb262, 5, none⟩ = some (.bool a0_5) := (blk_cell BK262.out 5).trans rfl; have hfz117_0 := blk_frozen BK262.out 0; have hfz117_1 := blk_frozen BK262.out 1; have hfz117_2 := blk_frozen BK262.out 2; have hfz117_3 := blk_frozen BK262.out 3; have hfz117_4 := blk_frozen BK262.out 4; have hfz117_5 := blk_frozen BK262.out 5) | ((with_reducible refine gate_callee (f := 15) rfl ?_); refine goesL_ (some 41) rfl rfl Try.func15 (by kernel_rfl) rfl #[.agg #[.int .i64 a0_0, .int .i64 a0_1, .int .i64 a0_2, .int .i64 a0_3, .int .i64 a0_4, .bool a0_5], .slice none 0 0, .int .i64 a2] rfl (by (try simp only [List.map_toArray, List.map_cons, List.map_nil]); first | done | rfl | (simp only [List.length_drop, List.length_take]; rfl)) ?_; (refine (glyf_High.calls k1 a0_0 a0_1 a0_2 a0_3 a0_4 a0_5 _ _ ([] : List (S30)) a2 t269 t270 t271 _ ?side1 ?side2 A16.out).mono ?_); (case side1 => exact Kd.C_nil _ _); (case side2 => exact Nat.le_refl _); rintro e w118 ⟨rfl, hb⟩; refine ⟨_, rfl, ?_⟩; have n0_ := Aside0.mk (blk_below (g := gb262) (o := .cells #[.int .i64 a0_0, .int .i64 a0_1, .int .i64 a0_2, .int .i64 a0_3, .int .i64 a0_4, .bool a0_5] 37 (0, 0)) (by (with_reducible repeat (first | refine blk_drewN ?_ _ | refine blk_drew ?_ | refine blk_alloc ?_ _)); exact BK262.out) hb); have n1_ := Aside0.mk (below_step (by repeat (first | (with_reducible first | exact HB.out | apply below_alloc | apply pw_below_drewN | apply below_drew1 | refine below_set ?_ GE262.out) | exact HB.out)) hb); clear BK262; clear HB; have BK262 := n0_; have HB := n1_; clear n0_ n1_; (try clear hb); (try clear hb2); (try clear hk); (try clear hi)) | ((with_reducible refine gate_callee (f := 13) rfl ?_); refine goesL_ (some 47) rfl rfl Try.func13 (by kernel_rfl) rfl #[] rfl (by (try simp only [List.map_toArray, List.map_cons, List.map_nil]); first | done | rfl | (simp only [List.length_drop, List.length_take]; rfl)) ?_; (with_reducible refine (vinculumlaw07_drawn.calls k1  true _ A72.out).mono ?_); rintro e w119 ⟨rfl, hb⟩; refine ⟨_, rfl, ?_⟩; have n0_ := Aside0.mk (blk_below (g := gb262) (o := .cells #[.int .i64 a0_0, .int .i64 a0_1, .int .i64 a0_2, .int .i64 a0_3, .int .i64 a0_4, .bool a0_5] 37 (0, 0)) (by (with_reducible repeat (first | refine blk_drewN ?_ _ | refine blk_drew ?_ | refine blk_alloc ?_ _)); exact BK262.out) hb); have n1_ := Aside0.mk (below_step (by repeat (first | (with_reducible first | exact HB.out | apply below_alloc | apply pw_below_drewN | apply below_drew1 | refine below_set ?_ GE262.out) | exact HB.out)) hb); clear BK262; clear HB; have BK262 := n0_; have HB := n1_; clear n0_ n1_; (try clear hb); (try clear hb2); (try clear hk); (try clear hi)))
                go_ret
                exact ⟨by first | rfl | (simp [errW_none, errW_some] <;> rfl) | (simp [*, errW_none, errW_some] <;> rfl), by repeat (first | (with_reducible first | exact HB.out | apply below_alloc | apply pw_below_drewN | apply below_drew1 | refine below_set ?_ GE262.out) | exact HB.out)⟩
            · replace c73 := Bool.eq_false_iff.mpr c73
              subst c73
              have H1 : (some false) = some r := by rw [if_neg (show ¬ (false = true) by decide)] at H; exact H
              clear H
              have H := H1
              clear H1
              obtain rfl := Option.some.inj H
              have hcz120_0 : wr.cell? ⟨gb262, 0, none⟩ = some (.int .i64 a0_0) := (blk_cell BK262.out 0).trans rfl
              have hcz120_1 : wr.cell? ⟨gb262, 1, none⟩ = some (.int .i64 a0_1) := (blk_cell BK262.out 1).trans rfl
              have hcz120_2 : wr.cell? ⟨gb262, 2, none⟩ = some (.int .i64 a0_2) := (blk_cell BK262.out 2).trans rfl
              have hcz120_3 : wr.cell? ⟨gb262, 3, none⟩ = some (.int .i64 a0_3) := (blk_cell BK262.out 3).trans rfl
              have hcz120_4 : wr.cell? ⟨gb262, 4, none⟩ = some (.int .i64 a0_4) := (blk_cell BK262.out 4).trans rfl
              have hcz120_5 : wr.cell? ⟨gb262, 5, none⟩ = some (.bool a0_5) := (blk_cell BK262.out 5).trans rfl
              have hfz120_0 := blk_frozen BK262.out 0
              have hfz120_1 := blk_frozen BK262.out 1
              have hfz120_2 := blk_frozen BK262.out 2
              have hfz120_3 := blk_frozen BK262.out 3
              have hfz120_4 := blk_frozen BK262.out 4
              have hfz120_5 := blk_frozen BK262.out 5
              go_wp2_with (first | ((with_reducible refine gate_callee (f := 15) rfl ?_); refine goesL_ (some 34) rfl rfl Try.func15 (by kernel_rfl) rfl #[.agg #[.int .i64 a0_0, .int .i64 a0_1, .int .i64 a0_2, .int .i64 a0_3, .int .i64 a0_4, .bool a0_5], .slice A1 l1.length c1, .int .i64 a2] rfl (by (try simp only [List.map_toArray, List.map_cons, List.map_nil]); first | done | rfl | (simp only [List.length_drop, List.length_take]; rfl)) ?_; (with_reducible refine (glyf_High.calls k1 a0_0 a0_1 a0_2 a0_3 a0_4 a0_5 _ _ l1 a2 t266 t267 t268 _ ?side1 ?side2 A15.out).mono ?_); (case side1 => repeat (first | exact (Kd.C_below HR1.out HB.out) | (with_reducible refine Kd.C_alloc ?_ _) | (with_reducible refine Kd.C_drewN ?_ _) | (with_reducible refine Kd.C_drew ?_))); (case side2 => exact HC1.out); rintro e w121 ⟨rfl, hb⟩; refine ⟨_, rfl, ?_⟩; have n0_ := Aside0.mk (blk_below (g := gb262) (o := .cells #[.int .i64 a0_0, .int .i64 a0_1, .int .i64 a0_2, .int .i64 a0_3, .int .i64 a0_4, .bool a0_5] 37 (0, 0)) (by (with_reducible repeat (first | refine blk_drewN ?_ _ | refine blk_drew ?_ | refine blk_alloc ?_ _)); exact BK262.out) hb); have n1_ := Aside0.mk (below_step (by repeat (first | (with_reducible first | exact HB.out | apply below_alloc | apply pw_below_drewN | apply below_drew1 | refine below_set ?_ GE262.out) | exact HB.out)) hb); clear BK262; clear HB; have BK262 := n0_; have HB := n1_; clear n0_ n1_; (try clear hb); (try clear hb2); (try clear hk); (try clear hi); have hcz122_0 : w121.cell? ⟨gb262, 0, none⟩ = some (.int .i64 a0_0) := (blk_cell BK262.out 0).trans rfl; have hcz122_1 : w121.cell? ⟨gb262, 1, none⟩ = some (.int .i64 a0_1) := (blk_cell BK262.out 1).trans rfl; have hcz122_2 : w121.cell? ⟨gb262, 2, none⟩ = some (.int .i64 a0_2) := (blk_cell BK262.out 2).trans rfl; have hcz122_3 : w121.cell? ⟨gb262, 3, none⟩ = some (.int .i64 a0_3) := (blk_cell BK262.out 3).trans rfl; have hcz122_4 : w121.cell? ⟨gb262, 4, none⟩ = some (.int .i64 a0_4) := (blk_cell BK262.out 4).trans rfl; have hcz122_5 : w121.cell? ⟨gb262, 5, none⟩ = some (.bool a0_5) := (blk_cell BK262.out 5).trans rfl; have hfz122_0 := blk_frozen BK262.out 0; have hfz122_1 := blk_frozen BK262.out 1; have hfz122_2 := blk_frozen BK262.out 2; have hfz122_3 := blk_frozen BK262.out 3; have hfz122_4 := blk_frozen BK262.out 4; have hfz122_5 := blk_frozen BK262.out 5) | ((with_reducible refine gate_callee (f := 15) rfl ?_); refine goesL_ (some 41) rfl rfl Try.func15 (by kernel_rfl) rfl #[.agg #[.int .i64 a0_0, .int .i64 a0_1, .int .i64 a0_2, .int .i64 a0_3, .int .i64 a0_4, .bool a0_5], .slice none 0 0, .int .i64 a2] rfl (by (try simp only [List.map_toArray, List.map_cons, List.map_nil]); first | done | rfl | (simp only [List.length_drop, List.length_take]; rfl)) ?_; (refine (glyf_High.calls k1 a0_0 a0_1 a0_2 a0_3 a0_4 a0_5 _ _ ([] : List (S30)) a2 t269 t270 t271 _ ?side1 ?side2 A16.out).mono ?_); (case side1 => exact Kd.C_nil _ _); (case side2 => exact Nat.le_refl _); rintro e w123 ⟨rfl, hb⟩; refine ⟨_, rfl, ?_⟩; have n0_ := Aside0.mk (blk_below (g := gb262) (o := .cells #[.int .i64 a0_0, .int .i64 a0_1, .int .i64 a0_2, .int .i64 a0_3, .int .i64 a0_4, .bool a0_5] 37 (0, 0)) (by (with_reducible repeat (first | refine blk_drewN ?_ _ | refine blk_drew ?_ | refine blk_alloc ?_ _)); exact BK262.out) hb); have n1_ := Aside0.mk (below_step (by repeat (first | (with_reducible first | exact HB.out | apply below_alloc | apply pw_below_drewN | apply below_drew1 | refine below_set ?_ GE262.out) | exact HB.out)) hb); clear BK262; clear HB; have BK262 := n0_; have HB := n1_; clear n0_ n1_; (try clear hb); (try clear hb2); (try clear hk); (try clear hi)) | ((with_reducible refine gate_callee (f := 13) rfl ?_); refine goesL_ (some 47) rfl rfl Try.func13 (by kernel_rfl) rfl #[] rfl (by (try simp only [List.map_toArray, List.map_cons, List.map_nil]); first | done | rfl | (simp only [List.length_drop, List.length_take]; rfl)) ?_; (with_reducible refine (vinculumlaw07_drawn.calls k1  false _ A72.out).mono ?_); rintro e w124 ⟨rfl, hb⟩; refine ⟨_, rfl, ?_⟩; have n0_ := Aside0.mk (blk_below (g := gb262) (o := .cells #[.int .i64 a0_0, .int .i64 a0_1, .int .i64 a0_2, .int .i64 a0_3, .int .i64 a0_4, .bool a0_5] 37 (0, 0)) (by (with_reducible repeat (first | refine blk_drewN ?_ _ | refine blk_drew ?_ | refine blk_alloc ?_ _)); exact BK262.out) hb); have n1_ := Aside0.mk (below_step (by repeat (first | (with_reducible first | exact HB.out | apply below_alloc | apply pw_below_drewN | apply below_drew1 | refine below_set ?_ GE262.out) | exact HB.out)) hb); clear BK262; clear HB; have BK262 := n0_; have HB := n1_; clear n0_ n1_; (try clear hb); (try clear hb2); (try clear hk); (try clear hi)))
              go_ret
              exact ⟨by first | rfl | (simp [errW_none, errW_some] <;> rfl) | (simp [*, errW_none, errW_some] <;> rfl), by repeat (first | (with_reducible first | exact HB.out | apply below_alloc | apply pw_below_drewN | apply below_drew1 | refine below_set ?_ GE262.out) | exact HB.out)⟩
end Go.Proofs.Ytjmliafplgjkhaa.P
end
section
namespace Go.Proofs.Ytjmliafplgjkhaa.P
open Go.RowKit Go.Proofs.YtjmliafplgjkhaaW.PrintWords Go.Proofs.YtjmliafplgjkhaaW.PrintLast Go.Proofs.YtjmliafplgjkhaaW.PrintMore
set_option linter.unusedSimpArgs false
set_option linter.unusedVariables false
def fit4 (x : S30) : Bool := fitsN x.f1 (-2) && (fitsN x.f2 (-2) && (fitsN x.f3 (-2) && fitsN x.f4 (-2)))
def rawE (x : S30) : List UInt8 := bytesN x.f1 2 ++ (bytesN x.f2 2 ++ (bytesN x.f3 2 ++ (bytesN x.f4 2 ++ [])))
theorem four_puts (x : S30) : puts [-2, -2, -2, -2] (fourN x) = if fit4 x = true then some (rawE x) else none := by
  unfold fourN fit4 rawE
  simp only [puts]
  cases fitsN x.f1 (-2) <;> cases fitsN x.f2 (-2) <;> cases fitsN x.f3 (-2) <;> cases fitsN x.f4 (-2) <;> rfl
theorem four_put (x : S30) : putN [-2, -2, -2, -2] (fourN x) = if fit4 x = true then (⟨(rawE x).toArray⟩, 0) else (⟨#[]⟩, 2) := by
  unfold putN
  rw [if_neg (by rintro (h | h); · exact absurd h (by decide)
                 · exact h rfl), four_puts]
  cases fit4 x <;> rfl
theorem isN_told (x : S30) : isN x = if x.f0 = true then (fit4 x && (decide (x.f1 ≤ x.f3) && decide (x.f2 ≤ x.f4))) else (x.f1 == 0 && (x.f2 == 0 && (x.f3 == 0 && x.f4 == 0))) := by
  unfold isN
  rw [four_put]
  cases fit4 x <;> rfl
theorem isN_any {x : S30} (h : isN x = true) (h0 : x.f0 = true) : fit4 x = true ∧ x.f1 ≤ x.f3 ∧ x.f2 ≤ x.f4 := by
  rw [isN_told, if_pos h0] at h
  simpa using h
theorem isN_none {x : S30} (h : isN x = true) (h0 : x.f0 = false) : x = z30 := by
  rw [isN_told, if_neg (by rw [h0]; decide)] at h
  obtain ⟨a, b, c, d, e⟩ := x
  simp only [Bool.and_eq_true, beq_iff_eq] at h
  simp only at h0
  obtain ⟨rfl, rfl, rfl, rfl⟩ := h
  subst h0
  rfl
end Go.Proofs.Ytjmliafplgjkhaa.P
end
section
namespace Go.Proofs.Ytjmliafplgjkhaa.P
open Go.RowKit Go.Proofs.YtjmliafplgjkhaaW.PrintWords Go.Proofs.YtjmliafplgjkhaaW.PrintLast Go.Proofs.YtjmliafplgjkhaaW.PrintMore
set_option linter.unusedSimpArgs false
set_option linter.unusedVariables false
theorem rd_get (l : List S30) (i : Nat) (h : i < l.length) : rd_T30 l (i : Int) = l[i] := by
  unfold rd_T30
  rw [Int.toNat_natCast, List.getD_eq_getElem?_getD, List.getElem?_eq_getElem h]; rfl
end Go.Proofs.Ytjmliafplgjkhaa.P
end
section
namespace Go.Proofs.Ytjmliafplgjkhaa.P
open Go.RowKit Go.Proofs.YtjmliafplgjkhaaW.PrintWords Go.Proofs.YtjmliafplgjkhaaW.PrintLast Go.Proofs.YtjmliafplgjkhaaW.PrintMore
set_option linter.unusedSimpArgs false
set_option linter.unusedVariables false
theorem drawn_told (k : Nat) (hk : 8 ≤ k) : vinculumlaw07_drawn.f k = some true :=
  at_rounds (g := fun k => vinculumlaw07_drawn.f k) (fun k => vinculumlaw07_drawn.mono k) hk (by decide +kernel)
end Go.Proofs.Ytjmliafplgjkhaa.P
end
section
namespace Go.Proofs.Ytjmliafplgjkhaa.P
open Go.RowKit Go.Proofs.YtjmliafplgjkhaaW.PrintWords Go.Proofs.YtjmliafplgjkhaaW.PrintLast Go.Proofs.YtjmliafplgjkhaaW.PrintMore
set_option linter.unusedSimpArgs false
set_option linter.unusedVariables false
theorem any_fits {x : S30} (h : isN x = true) (h0 : x.f0 = true) : fitsN x.f1 (-2) = true ∧ fitsN x.f2 (-2) = true ∧ fitsN x.f3 (-2) = true ∧ fitsN x.f4 (-2) = true := by
  have := (isN_any h h0).1
  unfold fit4 at this
  simpa using this
end Go.Proofs.Ytjmliafplgjkhaa.P
end
section
namespace Go.Proofs.Ytjmliafplgjkhaa.Pure
open Go.RowKit Go.Proofs.Ytjmliafplgjkhaa.P Go.Proofs.YtjmliafplgjkhaaW.PrintWords Go.Proofs.YtjmliafplgjkhaaW.PrintLast
set_option linter.unusedSimpArgs false
set_option linter.unusedVariables false
theorem high_bad (a b c d e g : Int) (z : Bool) (l : List S30) (h : headN a b c d e = false) (k : Nat) : glyf_High.f k a b c d e z l g = some (0, 0, 1) := by
  unfold glyf_High.f head_Is.f
  rw [h]
  simp only [Option.bind_some]
  rw [if_neg Bool.false_ne_true]
theorem high_out (a b c d e g : Int) (z : Bool) (l : List S30) (h : headN a b c d e = true) (hg : g < 0 ∨ b ≤ g ∨ 0 < l.length ∧ (l.length : Int) ≤ g) (k : Nat) : glyf_High.f (k + 1) a b c d e z l g = some (0, 0, 10) := by
  have hj : glyf_High.j0 (k + 1) l g true a b c d e z = some (0, 0, 10) := by simp only [glyf_High.j0]; rw [if_pos trivial]
  unfold glyf_High.f head_Is.f
  rw [h]
  simp only [Option.bind_some]
  rw [if_pos trivial]
  by_cases h1 : g < 0
  · rw [if_pos h1, hj]
  rw [if_neg h1]
  by_cases h2 : g ≥ b
  · rw [if_pos h2, hj]
  rw [if_neg h2]
  have h3 : 0 < l.length ∧ (l.length : Int) ≤ g := by omega
  rw [if_pos (by omega), show decide (g ≥ (l.length : Int)) = true from decide_eq_true h3.2, hj]
theorem high_none (a b c d e g : Int) (z : Bool) (h : headN a b c d e = true) (h1 : 0 ≤ g) (h2 : g < b) (k : Nat) : glyf_High.f (k + 1) a b c d e z [] g = some (d, wrap64 (-e), 0) := by
  unfold glyf_High.f head_Is.f
  rw [h]
  simp only [Option.bind_some]
  rw [if_pos trivial, if_neg (by omega), if_neg (by omega), if_neg (by simp)]
  simp only [glyf_High.j0]
  rw [if_neg Bool.false_ne_true, if_pos (by simp)]
theorem high_in (a b c d e : Int) (z : Bool) (l : List S30) (i : Nat) (hi : i < l.length) (h : headN a b c d e = true) (h2 : (i : Int) < b) (k : Nat) : glyf_High.f (k + 1) a b c d e z l (i : Int) = some (l[i].f4, wrap64 (-l[i].f2), 0) := by
  unfold glyf_High.f head_Is.f
  rw [h]
  simp only [Option.bind_some]
  rw [if_pos trivial, if_neg (by omega), if_neg (by omega), if_pos (by omega), show decide ((i : Int) ≥ (l.length : Int)) = false from decide_eq_false (by omega)]
  simp only [glyf_High.j0]
  rw [if_neg Bool.false_ne_true, if_neg (by omega), if_pos (by omega), if_pos (by omega), rd_get l i hi]
theorem fit_half {v : Int} (h : fitsN v (-2) = true) : -32768 ≤ v ∧ v < 32768 := by
  unfold fitsN at h
  rw [if_pos (by decide)] at h
  have e : (256 : Int) ^ (-2 : Int).natAbs = 65536 := by decide
  rw [e] at h
  have := of_decide_eq_true h
  omega
theorem deep_end (a b c d e g : Int) (z : Bool) (l : List S30) (hl : l.length ≤ 300) (hi : ∀ x ∈ l, isN x = true) (k : Nat) (hk : 100 ≤ k) : vinculumlaw07_GlyfDeep.l0 k l g (l.length : Int) a b c d e z = some true := by
  obtain ⟨k, rfl⟩ : ∃ n, k = n + 1 + 1 := ⟨k - 2, by omega⟩
  have hd := drawn_told (k + 1) (by omega)
  simp only [vinculumlaw07_GlyfDeep.l0]
  rw [if_neg (by omega)]
  have hh : head_Is.f a b c d e z = some (headN a b c d e) := rfl
  cases h : headN a b c d e with
  | false =>
    rw [high_bad a b c d e g z l h, high_bad a b c d e g z [] h]
    simp only [Option.bind_some]
    rw [if_neg (by decide), hd, hh, h]
    simp only [Option.bind_some]
    rw [if_pos trivial, if_pos trivial, if_pos trivial, if_neg Bool.false_ne_true]
  | true =>
    by_cases hg : g < 0 ∨ b ≤ g ∨ 0 < l.length ∧ (l.length : Int) ≤ g
    · obtain ⟨r, hr⟩ : ∃ r, glyf_High.f (k + 1) a b c d e z [] g = some r := by
        by_cases h2 : g < 0 ∨ b ≤ g
        · exact ⟨_, high_out a b c d e g z [] h (h2.elim .inl (fun h => .inr (.inl h))) k⟩
        · exact ⟨_, high_none a b c d e g z h (by omega) (by omega) k⟩
      rw [high_out a b c d e g z l h hg, hr]
      simp only [Option.bind_some]
      rw [if_neg (by decide), hd, hh, h]
      simp only [Option.bind_some]
      rw [if_pos trivial, if_pos trivial, if_pos trivial, if_pos trivial]
      by_cases h1 : g < 0
      · rw [if_pos h1]
      rw [if_neg h1]
      by_cases h2 : g ≥ b
      · rw [if_pos h2]
      rw [if_neg h2, Option.some.injEq]
      exact decide_eq_true (by omega)
    · have hb : d < 32768 ∧ -32768 ≤ e ∧ e < 32768 := by
        unfold headN chk4 at h
        simp only [Bool.and_eq_true, decide_eq_true_eq] at h
        omega
      by_cases h0 : l = []
      · subst h0
        rw [high_none a b c d e g z h (by omega) (by omega)]
        simp only [Option.bind_some]
        rw [if_pos trivial, hd]
        simp only [Option.bind_some]
        rw [if_pos trivial, if_pos trivial, if_pos trivial, if_pos trivial, if_pos (by omega), if_pos (by unfold wrap64; omega), if_pos (by simp)]
      · have hlen : l.length ≠ 0 := fun e => h0 (List.length_eq_zero_iff.1 e)
        obtain ⟨i, rfl⟩ := Int.eq_ofNat_of_zero_le (show 0 ≤ g by omega)
        have hil : i < l.length := by omega
        have hx := hi _ (List.getElem_mem hil)
        have hf : -32768 ≤ l[i].f2 ∧ l[i].f2 < 32768 ∧ -32768 ≤ l[i].f4 ∧ l[i].f4 < 32768 ∧ l[i].f2 ≤ l[i].f4 := by
          cases hf : l[i].f0 with
          | true =>
            obtain ⟨f1, f2, f3, f4⟩ := any_fits hx hf
            have q2 := fit_half f2
            have q4 := fit_half f4
            have := (isN_any hx hf).2.2
            omega
          | false =>
            have e : l[i] = z30 := isN_none hx hf
            rw [e]; decide
        have w1 : wrap64 (-l[i].f2) = -l[i].f2 := by unfold wrap64; omega
        have w2 : wrap64 (l[i].f4 + -l[i].f2) = l[i].f4 + -l[i].f2 := by unfold wrap64; omega
        rw [high_in a b c d e z l i hil h (by omega), high_none a b c d e (i : Int) z h (by omega) (by omega)]
        simp only [Option.bind_some]
        rw [if_pos trivial, hd]
        simp only [Option.bind_some]
        rw [if_pos trivial, if_pos trivial, if_pos trivial, if_pos trivial, w1, if_pos (by omega), if_pos (by omega), if_neg (by omega), w2, Option.some.injEq]
        exact decide_eq_true (by omega)
theorem deep_loop (a b c d e g : Int) (z : Bool) (l : List S30) (hl : l.length ≤ 300) (n : Nat) : ∀ k i, l.length - i = n → i ≤ l.length → 100 + n ≤ k → (∀ x ∈ l.take i, isN x = true) → vinculumlaw07_GlyfDeep.l0 k l g (i : Int) a b c d e z = some true := by
  induction n with
  | zero =>
    intro k i hd hle hk hi
    have : i = l.length := by omega
    subst this
    rw [List.take_length] at hi
    exact deep_end a b c d e g z l hl hi k (by omega)
  | succ n ih =>
    intro k i hd hle hk hi
    obtain ⟨k, rfl⟩ : ∃ n, k = n + 1 := ⟨k - 1, by omega⟩
    have hlt : i < l.length := by omega
    have hw : wrap64 ((i : Int) + 1) = ((i + 1 : Nat) : Int) := by unfold wrap64; omega
    have ht : l.take (i + 1) = l.take i ++ [l[i]] := by rw [List.take_add_one, List.getElem?_eq_getElem hlt]; rfl
    simp only [vinculumlaw07_GlyfDeep.l0]
    rw [if_pos (by omega), if_pos (by omega), rd_get l i hlt, is_some]
    simp only [Option.bind_some]
    cases hx : isN l[i] with
    | true =>
      rw [if_pos rfl, hw]
      refine ih k (i + 1) (by omega) hlt (by omega) (fun x hm => ?_)
      rw [ht, List.mem_append] at hm
      rcases hm with hm | hm
      · exact hi x hm
      · rw [List.mem_singleton.1 hm, hx]
    | false =>
      rw [if_neg Bool.false_ne_true, drawn_told k (by omega)]
      rfl
theorem deep_told (a b c d e g : Int) (z : Bool) (l : List S30) (k : Nat) (hk : 500 ≤ k) : vinculumlaw07_GlyfDeep.f k a b c d e z l g = some true := by
  unfold vinculumlaw07_GlyfDeep.f
  by_cases h : (l.length : Int) > 300
  · rw [if_pos h]
  · rw [if_neg h]
    exact deep_loop a b c d e g z l (by omega) l.length k 0 rfl (by omega) (by omega) (fun x hx => by simp at hx)
end Go.Proofs.Ytjmliafplgjkhaa.Pure
end
