/- Words, contracts and plain facts of the proof. Each says its own condition. -/
import Derived.Test.YtejdflndgnpkcaaZCmapRecordse
set_option linter.unusedVariables false
set_option linter.unusedSimpArgs false
namespace Go.Proofs.Ytejdflndgnpkcaa.P
open Go.RowKit Go.Proofs.YtejdflndgnpkcaaW.PrintWords Go.Proofs.YtejdflndgnpkcaaW.PrintLast Go.Proofs.YtejdflndgnpkcaaW.PrintMore
attribute [local go_sem] max2_int min2_int max_two min_two max_three min_three max_four min_four
def segment_table_right.l0 : Nat → Int → List Int → Int → Int → ByteArray → List Int → List Int → List Int → List Int → Option (Bool)
 | 0, _, _, _, _, _, _, _, _, _ => none
 | k + 1, x3, x7, x8, x9, x192000, x192001, x192002, x192003, x192004 => if x9 < x8 then (if 0 ≤ x9 then (if x9 < (x7.length : Int) then (if x9 < (x192002.length : Int) then (if (rd x192002 x9) > (rd x7 x9) then (some false) else (if (rd x192002 x9) ≤ x3 then (some false) else (if x9 < (x192004.length : Int) then (if (Int.tmod (rd x192004 x9) 2) = 0 then (segment_table_right.l0 k (rd x7 x9) x7 x8 (wrap64 (x9 + 1)) x192000 x192001 x192002 x192003 x192004) else (some false)) else (none)))) else (none)) else (none)) else (none)) else (some (x3 == 65535))
def segment_table_right.f (k : Nat) (a0_0 : ByteArray) (l0_1 : List Int) (l0_2 : List Int) (l0_3 : List Int) (l0_4 : List Int) : Option (Bool) := segment_table_right.l0 k (-1) l0_1 (l0_1.length : Int) 0 a0_0 l0_1 l0_2 l0_3 l0_4
set_option maxHeartbeats 8000000 in
set_option maxRecDepth 100000 in
theorem segment_table_right.calls (k : Nat) (a0_0 : ByteArray) (A0_1 : Option Addr) (c0_1 : Nat) (l0_1 : List Int) (A0_2 : Option Addr) (c0_2 : Nat) (l0_2 : List Int) (A0_3 : Option Addr) (c0_3 : Nat) (l0_3 : List Int) (A0_4 : Option Addr) (c0_4 : Nat) (l0_4 : List Int) (r : Bool) (w : World) (hr0_1 : Kd.C (Kd.int .i64) w A0_1 l0_1.length l0_1) (hc0_1 : l0_1.length ≤ c0_1) (hr0_2 : Kd.C (Kd.int .i64) w A0_2 l0_2.length l0_2) (hc0_2 : l0_2.length ≤ c0_2) (hr0_3 : Kd.C (Kd.int .i64) w A0_3 l0_3.length l0_3) (hc0_3 : l0_3.length ≤ c0_3) (hr0_4 : Kd.C (Kd.int .i64) w A0_4 l0_4.length l0_4) (hc0_4 : l0_4.length ≤ c0_4) (h : segment_table_right.f k a0_0 l0_1 l0_2 l0_3 l0_4 = some r) :
  Calls Try.prog 64 #[.agg #[.string a0_0, .slice A0_1 l0_1.length c0_1, .slice A0_2 l0_2.length c0_2, .slice A0_3 l0_3.length c0_3, .slice A0_4 l0_4.length c0_4]] w fun e w' => e = .returned (.bool r) ∧ Below w.heap.size w w' := by
 have hu100 := Try.underlying100
 have HR0_1 := Aside0.mk hr0_1
 have HC0_1 := Aside0.mk hc0_1
 clear hr0_1 hc0_1
 have HR0_2 := Aside0.mk hr0_2
 have HC0_2 := Aside0.mk hc0_2
 clear hr0_2 hc0_2
 have HR0_3 := Aside0.mk hr0_3
 have HC0_3 := Aside0.mk hc0_3
 clear hr0_3 hc0_3
 have HR0_4 := Aside0.mk hr0_4
 have HC0_4 := Aside0.mk hc0_4
 clear hr0_4 hc0_4
 have HB := Aside0.mk (Below.refl w.heap.size w)
 have H : (segment_table_right.l0 k (-1) l0_1 (l0_1.length : Int) 0 a0_0 l0_1 l0_2 l0_3 l0_4) = some r := h
 clear h
 have H' := Aside0.mk H
 clear H
 go_enter Try.func64, Try.ntmps64
 go_wp2_with (first | ((with_reducible refine gate_dst (N := 1) rfl ?_); refine box_event ?hg (N := 1) ?hd (cs := #[.string a0_0, .slice A0_1 l0_1.length c0_1, .slice A0_2 l0_2.length c0_2, .slice A0_3 l0_3.length c0_3, .slice A0_4 l0_4.length c0_4]) (t := 100) ?hr ?_; (case hd => rfl); (case hg => rfl); (case hr => exact hA); intro gb191 hg w2 hbox hb; have n0_ := Aside0.mk (below_step bA hb); have n1_ := Aside0.mk (hbox); have n2_ := Aside0.mk ((by rw [hg]; exact (below_size bA) : w.heap.size ≤ gb191)); have n3_ := Aside0.mk ((by rw [hg]; exact (below_size bA) : w.heap.size ≤ gb191)); clear HB; have HB := n0_; have BK191 := n1_; have GW191 := n2_; have GE191 := n3_; clear n0_ n1_ n2_ n3_; clear hb hbox hg; have hcz3_0 : w2.cell? ⟨gb191, 0, none⟩ = some (.string a0_0) := (blk_cell BK191.out 0).trans rfl; have hcz3_1 : w2.cell? ⟨gb191, 1, none⟩ = some (.slice A0_1 l0_1.length c0_1) := (blk_cell BK191.out 1).trans rfl; have hcz3_2 : w2.cell? ⟨gb191, 2, none⟩ = some (.slice A0_2 l0_2.length c0_2) := (blk_cell BK191.out 2).trans rfl; have hcz3_3 : w2.cell? ⟨gb191, 3, none⟩ = some (.slice A0_3 l0_3.length c0_3) := (blk_cell BK191.out 3).trans rfl; have hcz3_4 : w2.cell? ⟨gb191, 4, none⟩ = some (.slice A0_4 l0_4.length c0_4) := (blk_cell BK191.out 4).trans rfl; have hfz3_0 := blk_frozen BK191.out 0; have hfz3_1 := blk_frozen BK191.out 1; have hfz3_2 := blk_frozen BK191.out 2; have hfz3_3 := blk_frozen BK191.out 3; have hfz3_4 := blk_frozen BK191.out 4))
 go_loopg [3, 9] k (fun kq v3 v9 w' => ∃ (x3_1 : Int) (x9_1 : Int), v3 = .int .i64 x3_1 ∧ v9 = .int .i64 x9_1 ∧ Aside0 (segment_table_right.l0 kq x3_1 l0_1 (l0_1.length : Int) x9_1 a0_0 l0_1 l0_2 l0_3 l0_4 = some r) ∧ Aside0 (kq ≤ k) ∧ Aside0 (w'.heap[gb191]? = some (.cells #[.string a0_0, (.slice A0_1 l0_1.length c0_1), (.slice A0_2 l0_2.length c0_2), (.slice A0_3 l0_3.length c0_3), (.slice A0_4 l0_4.length c0_4)] 100 (0, 0))) ∧ Aside0 (Below w.heap.size w w'))
 case atStart => exact ⟨((-1)), (0), gA, gA, H', ⟨Nat.le_refl _⟩, ⟨by (with_reducible repeat (first | refine blk_drewN ?_ _ | refine blk_drew ?_ | refine blk_alloc ?_ _)); exact BK191.out⟩, ⟨by repeat (first | (with_reducible first | exact HB.out | apply below_alloc | apply pw_below_drewN | apply below_drew1 | refine below_set ?_ GE191.out) | exact HB.out)⟩⟩
 case round =>
  clear H'
  try clear p2
  try clear hcz3_0
  try clear hcz3_1
  try clear hcz3_2
  try clear hcz3_3
  try clear hcz3_4
  try clear hfz3_0
  try clear hfz3_1
  try clear hfz3_2
  try clear hfz3_3
  try clear hfz3_4
  obtain ⟨x3_1, x9_1, rfl, rfl, HA, HK1, BK191, HB⟩ := hrel
  cases gk with
  | zero => exact absurd HA.out (by simp [segment_table_right.l0])
  | succ k1 =>
   have H := HA.out
   clear HA
   simp only [segment_table_right.l0] at H
   by_cases c4 : x9_1 < (l0_1.length : Int)
   ·
    rw [if_pos c4] at H
    have c4b0 : decide (x9_1 < (l0_1.length : Int)) = true := decide_eq_true c4
    clear c4
    by_cases c5 : 0 ≤ x9_1
    ·
     rw [if_pos c5] at H
     have c5b0 : decide (0 ≤ x9_1) = true := decide_eq_true c5
     clear c5
     by_cases c6 : x9_1 < (l0_1.length : Int)
     ·
      rw [if_pos c6] at H
      have c6b0 : decide (x9_1 < (l0_1.length : Int)) = true := decide_eq_true c6
      clear c6
      by_cases c7 : x9_1 < (l0_2.length : Int)
      ·
       rw [if_pos c7] at H
       have c7b0 : decide (x9_1 < (l0_2.length : Int)) = true := decide_eq_true c7
       clear c7
       by_cases c8 : (rd l0_2 x9_1) > (rd l0_1 x9_1)
       ·
        rw [if_pos c8] at H
        have c8b0 : decide ((rd l0_1 x9_1) < (rd l0_2 x9_1)) = true := decide_eq_true c8
        clear c8
        obtain rfl := Option.some.inj H
        have p192 : 0 ≤ (x9_1 : Int) := of_decide_eq_true sA
        have q192 : x9_1 < (l0_1.length : Int) := of_decide_eq_true sA
        obtain ⟨ad192, e192, hx192_0⟩ := Kd.at_int HR0_1.out x9_1 p192 q192
        cases e192
        replace hx192_0 := (HB.out.cell (World.block_lt_of_cell? w _ hx192_0)).trans hx192_0
        replace p192 := eq_true p192
        replace q192 := eq_true q192
        have hcz9_0 : wr.cell? ⟨gb191, 0, none⟩ = some (.string a0_0) := (blk_cell BK191.out 0).trans rfl
        have hcz9_1 : wr.cell? ⟨gb191, 1, none⟩ = some (.slice (some ad192) l0_1.length c0_1) := (blk_cell BK191.out 1).trans rfl
        have hcz9_2 : wr.cell? ⟨gb191, 2, none⟩ = some (.slice A0_2 l0_2.length c0_2) := (blk_cell BK191.out 2).trans rfl
        have hcz9_3 : wr.cell? ⟨gb191, 3, none⟩ = some (.slice A0_3 l0_3.length c0_3) := (blk_cell BK191.out 3).trans rfl
        have hcz9_4 : wr.cell? ⟨gb191, 4, none⟩ = some (.slice A0_4 l0_4.length c0_4) := (blk_cell BK191.out 4).trans rfl
        have hfz9_0 := blk_frozen BK191.out 0
        have hfz9_1 := blk_frozen BK191.out 1
        have hfz9_2 := blk_frozen BK191.out 2
        have hfz9_3 := blk_frozen BK191.out 3
        have hfz9_4 := blk_frozen BK191.out 4
        have p193 : 0 ≤ (x9_1 : Int) := of_decide_eq_true sA
        have q193 : x9_1 < (l0_2.length : Int) := of_decide_eq_true sA
        obtain ⟨ad193, e193, hx193_0⟩ := Kd.at_int HR0_2.out x9_1 p193 q193
        cases e193
        replace hx193_0 := (HB.out.cell (World.block_lt_of_cell? w _ hx193_0)).trans hx193_0
        replace p193 := eq_true p193
        replace q193 := eq_true q193
        go_wp2
        go_ret
        exact ⟨eA, by repeat (first | (with_reducible first | exact HB.out | apply below_alloc | apply pw_below_drewN | apply below_drew1 | refine below_set ?_ GE191.out) | exact HB.out)⟩
       ·
        rw [if_neg c8] at H
        have c8b0 : decide ((rd l0_1 x9_1) < (rd l0_2 x9_1)) = false := decide_eq_false c8
        clear c8
        by_cases c10 : (rd l0_2 x9_1) ≤ x3_1
        ·
         rw [if_pos c10] at H
         have c10b0 : decide ((rd l0_2 x9_1) ≤ x3_1) = true := decide_eq_true c10
         clear c10
         obtain rfl := Option.some.inj H
         have p192 : 0 ≤ (x9_1 : Int) := of_decide_eq_true sA
         have q192 : x9_1 < (l0_1.length : Int) := of_decide_eq_true sA
         obtain ⟨ad192, e192, hx192_0⟩ := Kd.at_int HR0_1.out x9_1 p192 q192
         cases e192
         replace hx192_0 := (HB.out.cell (World.block_lt_of_cell? w _ hx192_0)).trans hx192_0
         replace p192 := eq_true p192
         replace q192 := eq_true q192
         have hcz11_0 : wr.cell? ⟨gb191, 0, none⟩ = some (.string a0_0) := (blk_cell BK191.out 0).trans rfl
         have hcz11_1 : wr.cell? ⟨gb191, 1, none⟩ = some (.slice (some ad192) l0_1.length c0_1) := (blk_cell BK191.out 1).trans rfl
         have hcz11_2 : wr.cell? ⟨gb191, 2, none⟩ = some (.slice A0_2 l0_2.length c0_2) := (blk_cell BK191.out 2).trans rfl
         have hcz11_3 : wr.cell? ⟨gb191, 3, none⟩ = some (.slice A0_3 l0_3.length c0_3) := (blk_cell BK191.out 3).trans rfl
         have hcz11_4 : wr.cell? ⟨gb191, 4, none⟩ = some (.slice A0_4 l0_4.length c0_4) := (blk_cell BK191.out 4).trans rfl
         have hfz11_0 := blk_frozen BK191.out 0
         have hfz11_1 := blk_frozen BK191.out 1
         have hfz11_2 := blk_frozen BK191.out 2
         have hfz11_3 := blk_frozen BK191.out 3
         have hfz11_4 := blk_frozen BK191.out 4
         have p193 : 0 ≤ (x9_1 : Int) := of_decide_eq_true sA
         have q193 : x9_1 < (l0_2.length : Int) := of_decide_eq_true sA
         obtain ⟨ad193, e193, hx193_0⟩ := Kd.at_int HR0_2.out x9_1 p193 q193
         cases e193
         replace hx193_0 := (HB.out.cell (World.block_lt_of_cell? w _ hx193_0)).trans hx193_0
         replace p193 := eq_true p193
         replace q193 := eq_true q193
         have p194 : 0 ≤ (x9_1 : Int) := of_decide_eq_true sA
         have q194 : x9_1 < (l0_2.length : Int) := of_decide_eq_true sA
         obtain ⟨ad194, e194, hx194_0⟩ := Kd.at_int HR0_2.out x9_1 p194 q194
         obtain rfl : ad193 = ad194 := (by injection e194)
         replace hx194_0 := (HB.out.cell (World.block_lt_of_cell? w _ hx194_0)).trans hx194_0
         replace p194 := eq_true p194
         replace q194 := eq_true q194
         go_wp2
         go_ret
         exact ⟨eA, by repeat (first | (with_reducible first | exact HB.out | apply below_alloc | apply pw_below_drewN | apply below_drew1 | refine below_set ?_ GE191.out) | exact HB.out)⟩
        ·
         rw [if_neg c10] at H
         have c10b0 : decide ((rd l0_2 x9_1) ≤ x3_1) = false := decide_eq_false c10
         clear c10
         by_cases c12 : x9_1 < (l0_4.length : Int)
         ·
          rw [if_pos c12] at H
          have c12b0 : decide (x9_1 < (l0_4.length : Int)) = true := decide_eq_true c12
          clear c12
          by_cases c13 : (Int.tmod (rd l0_4 x9_1) 2) = 0
          ·
           rw [if_pos c13] at H
           have c13b0 : ((Int.tmod (rd l0_4 x9_1) 2) == 0) = true := beq_iff_eq.mpr c13
           have c13b1 : ((Int.tmod (rd l0_4 x9_1) 2) != 0) = false := bne_eq_false_iff_eq.mpr c13
           clear c13
           have H' := Aside0.mk H
           clear H
           have p192 : 0 ≤ (x9_1 : Int) := of_decide_eq_true sA
           have q192 : x9_1 < (l0_1.length : Int) := of_decide_eq_true sA
           obtain ⟨ad192, e192, hx192_0⟩ := Kd.at_int HR0_1.out x9_1 p192 q192
           cases e192
           replace hx192_0 := (HB.out.cell (World.block_lt_of_cell? w _ hx192_0)).trans hx192_0
           replace p192 := eq_true p192
           replace q192 := eq_true q192
           have hcz14_0 : wr.cell? ⟨gb191, 0, none⟩ = some (.string a0_0) := (blk_cell BK191.out 0).trans rfl
           have hcz14_1 : wr.cell? ⟨gb191, 1, none⟩ = some (.slice (some ad192) l0_1.length c0_1) := (blk_cell BK191.out 1).trans rfl
           have hcz14_2 : wr.cell? ⟨gb191, 2, none⟩ = some (.slice A0_2 l0_2.length c0_2) := (blk_cell BK191.out 2).trans rfl
           have hcz14_3 : wr.cell? ⟨gb191, 3, none⟩ = some (.slice A0_3 l0_3.length c0_3) := (blk_cell BK191.out 3).trans rfl
           have hcz14_4 : wr.cell? ⟨gb191, 4, none⟩ = some (.slice A0_4 l0_4.length c0_4) := (blk_cell BK191.out 4).trans rfl
           have hfz14_0 := blk_frozen BK191.out 0
           have hfz14_1 := blk_frozen BK191.out 1
           have hfz14_2 := blk_frozen BK191.out 2
           have hfz14_3 := blk_frozen BK191.out 3
           have hfz14_4 := blk_frozen BK191.out 4
           have p193 : 0 ≤ (x9_1 : Int) := of_decide_eq_true sA
           have q193 : x9_1 < (l0_2.length : Int) := of_decide_eq_true sA
           obtain ⟨ad193, e193, hx193_0⟩ := Kd.at_int HR0_2.out x9_1 p193 q193
           cases e193
           replace hx193_0 := (HB.out.cell (World.block_lt_of_cell? w _ hx193_0)).trans hx193_0
           replace p193 := eq_true p193
           replace q193 := eq_true q193
           have p194 : 0 ≤ (x9_1 : Int) := of_decide_eq_true sA
           have q194 : x9_1 < (l0_2.length : Int) := of_decide_eq_true sA
           obtain ⟨ad194, e194, hx194_0⟩ := Kd.at_int HR0_2.out x9_1 p194 q194
           obtain rfl : ad193 = ad194 := (by injection e194)
           replace hx194_0 := (HB.out.cell (World.block_lt_of_cell? w _ hx194_0)).trans hx194_0
           replace p194 := eq_true p194
           replace q194 := eq_true q194
           have p195 : 0 ≤ (x9_1 : Int) := of_decide_eq_true sA
           have q195 : x9_1 < (l0_4.length : Int) := of_decide_eq_true sA
           obtain ⟨ad195, e195, hx195_0⟩ := Kd.at_int HR0_4.out x9_1 p195 q195
           cases e195
           replace hx195_0 := (HB.out.cell (World.block_lt_of_cell? w _ hx195_0)).trans hx195_0
           replace p195 := eq_true p195
           replace q195 := eq_true q195
           go_wp2
           go_roundg k1
           case measure => have := HK1.out; omega
           case rel => exact ⟨(rd l0_1 x9_1), (wrap64 (x9_1 + 1)), gA, gA, H', ⟨by have := HK1.out; omega⟩, ⟨by (with_reducible repeat (first | refine blk_drewN ?_ _ | refine blk_drew ?_ | refine blk_alloc ?_ _)); exact BK191.out⟩, ⟨by repeat (first | (with_reducible first | exact HB.out | apply below_alloc | apply pw_below_drewN | apply below_drew1 | refine below_set ?_ GE191.out) | exact HB.out)⟩⟩
          ·
           rw [if_neg c13] at H
           have c13b0 : ((Int.tmod (rd l0_4 x9_1) 2) == 0) = false := beq_eq_false_iff_ne.mpr c13
           have c13b1 : ((Int.tmod (rd l0_4 x9_1) 2) != 0) = true := bne_iff_ne.mpr c13
           obtain rfl := Option.some.inj H
           have p192 : 0 ≤ (x9_1 : Int) := of_decide_eq_true sA
           have q192 : x9_1 < (l0_1.length : Int) := of_decide_eq_true sA
           obtain ⟨ad192, e192, hx192_0⟩ := Kd.at_int HR0_1.out x9_1 p192 q192
           cases e192
           replace hx192_0 := (HB.out.cell (World.block_lt_of_cell? w _ hx192_0)).trans hx192_0
           replace p192 := eq_true p192
           replace q192 := eq_true q192
           have hcz15_0 : wr.cell? ⟨gb191, 0, none⟩ = some (.string a0_0) := (blk_cell BK191.out 0).trans rfl
           have hcz15_1 : wr.cell? ⟨gb191, 1, none⟩ = some (.slice (some ad192) l0_1.length c0_1) := (blk_cell BK191.out 1).trans rfl
           have hcz15_2 : wr.cell? ⟨gb191, 2, none⟩ = some (.slice A0_2 l0_2.length c0_2) := (blk_cell BK191.out 2).trans rfl
           have hcz15_3 : wr.cell? ⟨gb191, 3, none⟩ = some (.slice A0_3 l0_3.length c0_3) := (blk_cell BK191.out 3).trans rfl
           have hcz15_4 : wr.cell? ⟨gb191, 4, none⟩ = some (.slice A0_4 l0_4.length c0_4) := (blk_cell BK191.out 4).trans rfl
           have hfz15_0 := blk_frozen BK191.out 0
           have hfz15_1 := blk_frozen BK191.out 1
           have hfz15_2 := blk_frozen BK191.out 2
           have hfz15_3 := blk_frozen BK191.out 3
           have hfz15_4 := blk_frozen BK191.out 4
           have p193 : 0 ≤ (x9_1 : Int) := of_decide_eq_true sA
           have q193 : x9_1 < (l0_2.length : Int) := of_decide_eq_true sA
           obtain ⟨ad193, e193, hx193_0⟩ := Kd.at_int HR0_2.out x9_1 p193 q193
           cases e193
           replace hx193_0 := (HB.out.cell (World.block_lt_of_cell? w _ hx193_0)).trans hx193_0
           replace p193 := eq_true p193
           replace q193 := eq_true q193
           have p194 : 0 ≤ (x9_1 : Int) := of_decide_eq_true sA
           have q194 : x9_1 < (l0_2.length : Int) := of_decide_eq_true sA
           obtain ⟨ad194, e194, hx194_0⟩ := Kd.at_int HR0_2.out x9_1 p194 q194
           obtain rfl : ad193 = ad194 := (by injection e194)
           replace hx194_0 := (HB.out.cell (World.block_lt_of_cell? w _ hx194_0)).trans hx194_0
           replace p194 := eq_true p194
           replace q194 := eq_true q194
           have p195 : 0 ≤ (x9_1 : Int) := of_decide_eq_true sA
           have q195 : x9_1 < (l0_4.length : Int) := of_decide_eq_true sA
           obtain ⟨ad195, e195, hx195_0⟩ := Kd.at_int HR0_4.out x9_1 p195 q195
           cases e195
           replace hx195_0 := (HB.out.cell (World.block_lt_of_cell? w _ hx195_0)).trans hx195_0
           replace p195 := eq_true p195
           replace q195 := eq_true q195
           go_wp2
           go_ret
           exact ⟨eA, by repeat (first | (with_reducible first | exact HB.out | apply below_alloc | apply pw_below_drewN | apply below_drew1 | refine below_set ?_ GE191.out) | exact HB.out)⟩
         ·
          rw [if_neg c12] at H
          exact absurd H (by simp)
      ·
       rw [if_neg c7] at H
       exact absurd H (by simp)
     ·
      rw [if_neg c6] at H
      exact absurd H (by simp)
    ·
     rw [if_neg c5] at H
     exact absurd H (by simp)
   ·
    rw [if_neg c4] at H
    have c4b0 : decide (x9_1 < (l0_1.length : Int)) = false := decide_eq_false c4
    clear c4
    obtain rfl := Option.some.inj H
    go_wp2
    go_ret
    exact ⟨eA, by repeat (first | (with_reducible first | exact HB.out | apply below_alloc | apply pw_below_drewN | apply below_drew1 | refine below_set ?_ GE191.out) | exact HB.out)⟩
end Go.Proofs.Ytejdflndgnpkcaa.P
