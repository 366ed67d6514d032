/- Words, contracts and plain facts of the proof. Each says its own condition. -/
import Derived.Test.YtejdflndgnpkcaaZCmapRecordse
import Derived.Test.YtejdflndgnpkcaaZCmapRecordsx
set_option linter.unusedVariables false
set_option linter.unusedSimpArgs false
namespace Go.Proofs.Ytejdflndgnpkcaa.P
open Go.RowKit Go.Proofs.YtejdflndgnpkcaaW.PrintWords Go.Proofs.YtejdflndgnpkcaaW.PrintLast Go.Proofs.YtejdflndgnpkcaaW.PrintMore
attribute [local go_sem] max2_int min2_int max_two min_two max_three min_three max_four min_four
def segment_table_far.l0 : Nat → Int → List (S50) → Int → Int → ByteArray → List Int → List Int → List Int → List Int → Option ((List (S50)) × Int)
 | 0, _, _, _, _, _, _, _, _, _ => none
 | k + 1, x1, x6, x7, x8, x204000, x204001, x204002, x204003, x204004 => if 0 ≤ x1 then (if x1 < (x204001.length : Int) then (if x8 ≤ (rd x204001 x1) then (if x1 < (x204004.length : Int) then (if x1 < (x204002.length : Int) then ((segment_words.f x204000 (wrap64 ((wrap64 (x7 + (rd x204004 x1))) + (wrap64 (2 * (wrap64 (x8 - (rd x204002 x1))))))) 1).bind fun bt208 => (if bt208.2 = 0 then (if 0 < (bt208.1.length : Int) then (if x1 < (x204003.length : Int) then (if (rd bt208.1 0) = 0 then (segment_table_far.l0 k x1 x6 x7 (wrap64 (x8 + 1)) x204000 x204001 x204002 x204003 x204004) else (if (Int.tmod (wrap64 ((rd bt208.1 0) + (rd x204003 x1))) 65536) = 0 then (segment_table_far.l0 k x1 x6 x7 (wrap64 (x8 + 1)) x204000 x204001 x204002 x204003 x204004) else (if x6.length < 4398046511104 then (segment_table_far.l0 k x1 (x6 ++ [(⟨x8, x8, Int.tmod (wrap64 ((rd bt208.1 0) + (rd x204003 x1))) 65536, 1⟩ : S50)]) x7 (wrap64 (x8 + 1)) x204000 x204001 x204002 x204003 x204004) else (none)))) else (none)) else (none)) else (some (([] : List (S50)), bt208.2)))) else (none)) else (none)) else (some (x6, 0))) else (none)) else (none)
def segment_table_far.f (k : Nat) (a0_0 : ByteArray) (l0_1 : List Int) (l0_2 : List Int) (l0_3 : List Int) (l0_4 : List Int) (a1 : Int) : Option ((List (S50)) × Int) := if 0 ≤ a1 then (if a1 < (l0_2.length : Int) then (segment_table_far.l0 k a1 ([] : List (S50)) (wrap64 (16 + (wrap64 (2 * (wrap64 ((wrap64 (3 * (l0_1.length : Int))) + a1)))))) (rd l0_2 a1) a0_0 l0_1 l0_2 l0_3 l0_4) else (none)) else (none)
def segment_table_far.T6 : Bool × List (List Nat × List Nat) := (true, [([], []), ([0], [0]), ([], []), ([], []), ([3], [3]), ([], []), ([4, 5], [4, 5]), ([6], [6]), ([2, 7], [2, 7]), ([], []), ([], []), ([10], [10]), ([], []), ([11, 12], [11, 12]), ([13], [13]), ([9, 14], [9, 14]), ([15], [15]), ([8, 16], [8, 16]), ([1, 17], [1, 17]), ([18], [18]), ([19], [19]), ([19], [19]), ([20, 18, 0, 1, 2, 3, 4, 5, 6, 7, 8, 9, 10, 11, 12, 13, 14, 15, 16, 17, 18, 19, 20], [20]), ([21, 22, 0, 1, 2, 3, 4, 5, 6, 7, 8, 9, 10, 11, 12, 13, 14, 15, 16, 17, 18, 19, 20, 21, 22], [21])])
def segment_table_far.B6 : List Nat := [0, 1, 0, 0, 8, 0, 56, 120, 252, 0, 0, 1024, 0, 7168, 15360, 32256, 65024, 131068, 262143, 524287, 1048575, 1048575, 2097151, 8388607]
theorem segment_table_far.tab6 : rtab .any (opsOf Try.f66 6) = segment_table_far.T6 := by kernel_rfl
theorem segment_table_far.bits6 : waitsOk segment_table_far.T6.2 segment_table_far.B6 = true := by kernel_rfl
def segment_table_far.T9 : Bool × List (List Nat × List Nat) := (true, [([], []), ([0], [0]), ([1], [1]), ([], []), ([3], [3]), ([], []), ([4, 5], [4, 5]), ([6], [6]), ([2, 7], [2, 7]), ([8], [8]), ([9, 0, 1, 2, 3, 4, 5, 6, 7, 8, 9], [9])])
def segment_table_far.B9 : List Nat := [0, 1, 3, 0, 8, 0, 56, 120, 255, 511, 1023]
theorem segment_table_far.tab9 : rtab .any (opsOf Try.f66 9) = segment_table_far.T9 := by kernel_rfl
theorem segment_table_far.bits9 : waitsOk segment_table_far.T9.2 segment_table_far.B9 = true := by kernel_rfl
set_option maxHeartbeats 8000000 in
set_option maxRecDepth 100000 in
theorem segment_table_far.calls (k : Nat) (a0_0 : ByteArray) (A0_1 : Option Addr) (c0_1 : Nat) (l0_1 : List Int) (A0_2 : Option Addr) (c0_2 : Nat) (l0_2 : List Int) (A0_3 : Option Addr) (c0_3 : Nat) (l0_3 : List Int) (A0_4 : Option Addr) (c0_4 : Nat) (l0_4 : List Int) (a1 : Int) (r1 : List (S50)) (r2 : Int) (w : World) (hr0_1 : Kd.C (Kd.int .i64) w A0_1 l0_1.length l0_1) (hc0_1 : l0_1.length ≤ c0_1) (hr0_2 : Kd.C (Kd.int .i64) w A0_2 l0_2.length l0_2) (hc0_2 : l0_2.length ≤ c0_2) (hr0_3 : Kd.C (Kd.int .i64) w A0_3 l0_3.length l0_3) (hc0_3 : l0_3.length ≤ c0_3) (hr0_4 : Kd.C (Kd.int .i64) w A0_4 l0_4.length l0_4) (hc0_4 : l0_4.length ≤ c0_4) (h : segment_table_far.f k a0_0 l0_1 l0_2 l0_3 l0_4 a1 = some (r1, r2)) :
  Calls Try.prog 66 #[.agg #[.string a0_0, .slice A0_1 l0_1.length c0_1, .slice A0_2 l0_2.length c0_2, .slice A0_3 l0_3.length c0_3, .slice A0_4 l0_4.length c0_4], .int .i64 a1] w fun e w' => ∃ v0_ : Value, e = .returned (.tuple #[v0_, .int .i64 r2]) ∧ Kd.R k50 50 w' w.heap.size (fun _ => True) v0_ r1 ∧ Below w.heap.size w w' := by
 have hu100 := Try.underlying100
 have hu50 := Try.underlying50
 have HR0_1 := Aside0.mk hr0_1
 have HC0_1 := Aside0.mk hc0_1
 clear hr0_1 hc0_1
 have HR0_2 := Aside0.mk hr0_2
 have HC0_2 := Aside0.mk hc0_2
 clear hr0_2 hc0_2
 have HR0_3 := Aside0.mk hr0_3
 have HC0_3 := Aside0.mk hc0_3
 clear hr0_3 hc0_3
 have HR0_4 := Aside0.mk hr0_4
 have HC0_4 := Aside0.mk hc0_4
 clear hr0_4 hc0_4
 have HB := Aside0.mk (Below.refl w.heap.size w)
 have H : (if 0 ≤ a1 then (if a1 < (l0_2.length : Int) then (segment_table_far.l0 k a1 ([] : List (S50)) (wrap64 (16 + (wrap64 (2 * (wrap64 ((wrap64 (3 * (l0_1.length : Int))) + a1)))))) (rd l0_2 a1) a0_0 l0_1 l0_2 l0_3 l0_4) else (none)) else (none)) = some (r1, r2) := h
 clear h
 by_cases c3 : 0 ≤ a1
 ·
  rw [if_pos c3] at H
  have c3b0 : decide (0 ≤ a1) = true := decide_eq_true c3
  clear c3
  by_cases c4 : a1 < (l0_2.length : Int)
  ·
   rw [if_pos c4] at H
   have c4b0 : decide (a1 < (l0_2.length : Int)) = true := decide_eq_true c4
   clear c4
   have H' := Aside0.mk H
   clear H
   go_enter Try.func66, Try.ntmps66
   go_wp2_with (first | ((with_reducible refine gate_dst (N := 2) rfl ?_); refine box_event ?hg (N := 2) ?hd (cs := #[.string a0_0, .slice A0_1 l0_1.length c0_1, .slice A0_2 l0_2.length c0_2, .slice A0_3 l0_3.length c0_3, .slice A0_4 l0_4.length c0_4]) (t := 100) ?hr ?_; (case hd => rfl); (case hg => rfl); (case hr => exact hA); intro gb203 hg w5 hbox hb; have n0_ := Aside0.mk (below_step bA hb); have n1_ := Aside0.mk (hbox); have n2_ := Aside0.mk ((by rw [hg]; exact (below_size bA) : w.heap.size ≤ gb203)); have n3_ := Aside0.mk ((by rw [hg]; exact (below_size bA) : w.heap.size ≤ gb203)); clear HB; have HB := n0_; have BK203 := n1_; have GW203 := n2_; have GE203 := n3_; clear n0_ n1_ n2_ n3_; clear hb hbox hg; have hcz6_0 : w5.cell? ⟨gb203, 0, none⟩ = some (.string a0_0) := (blk_cell BK203.out 0).trans rfl; have hcz6_1 : w5.cell? ⟨gb203, 1, none⟩ = some (.slice A0_1 l0_1.length c0_1) := (blk_cell BK203.out 1).trans rfl; have hcz6_2 : w5.cell? ⟨gb203, 2, none⟩ = some (.slice A0_2 l0_2.length c0_2) := (blk_cell BK203.out 2).trans rfl; have hcz6_3 : w5.cell? ⟨gb203, 3, none⟩ = some (.slice A0_3 l0_3.length c0_3) := (blk_cell BK203.out 3).trans rfl; have hcz6_4 : w5.cell? ⟨gb203, 4, none⟩ = some (.slice A0_4 l0_4.length c0_4) := (blk_cell BK203.out 4).trans rfl; have hfz6_0 := blk_frozen BK203.out 0; have hfz6_1 := blk_frozen BK203.out 1; have hfz6_2 := blk_frozen BK203.out 2; have hfz6_3 := blk_frozen BK203.out 3; have hfz6_4 := blk_frozen BK203.out 4; have p204 : 0 ≤ (a1 : Int) := of_decide_eq_true sA; have q204 : a1 < (l0_2.length : Int) := of_decide_eq_true sA; obtain ⟨ad204, e204, hx204_0⟩ := Kd.at_int HR0_2.out a1 p204 q204; cases e204; replace hx204_0 := (HB.out.cell (World.block_lt_of_cell? w _ hx204_0)).trans hx204_0; replace p204 := eq_true p204; replace q204 := eq_true q204))
   go_loopg [6, 8] k (fun kq v6 v8 w' => ∃ (x6_1 : List (S50)) (x8_1 : Int), v8 = .int .i64 x8_1 ∧ Aside0 (segment_table_far.l0 kq a1 x6_1 (wrap64 (16 + (wrap64 (2 * (wrap64 ((wrap64 (3 * (l0_1.length : Int))) + a1)))))) x8_1 a0_0 l0_1 l0_2 l0_3 l0_4 = some (r1, r2)) ∧ Aside0 (kq ≤ k) ∧ Aside0 (Kd.R k50 50 w' w.heap.size (fun _ => True) v6 x6_1) ∧ Aside0 (w'.heap[gb203]? = some (.cells #[.string a0_0, (.slice A0_1 l0_1.length c0_1), (.slice (some ad204) l0_2.length c0_2), (.slice A0_3 l0_3.length c0_3), (.slice A0_4 l0_4.length c0_4)] 100 (0, 0))) ∧ Aside0 (Below w.heap.size w w'))
   case atStart => exact ⟨(([] : List (S50))), (rd l0_2 a1), gA, H', ⟨Nat.le_refl _⟩, ⟨nA⟩, ⟨by (with_reducible repeat (first | refine blk_drewN ?_ _ | refine blk_drew ?_ | refine blk_alloc ?_ _)); exact BK203.out⟩, ⟨by repeat (first | (with_reducible first | exact HB.out | apply below_alloc | apply pw_below_drewN | apply below_drew1 | refine below_set ?_ GE203.out) | exact HB.out)⟩⟩
   case round =>
    clear H'
    try clear p2
    try clear q2
    try clear hx2
    try clear c3
    try clear c3b0
    try clear c4
    try clear c4b0
    try clear c6
    try clear p6
    try clear hcz6_0
    try clear hcz6_1
    try clear hcz6_2
    try clear hcz6_3
    try clear hcz6_4
    try clear hfz6_0
    try clear hfz6_1
    try clear hfz6_2
    try clear hfz6_3
    try clear hfz6_4
    try clear hx204_0
    try clear p204
    try clear q204
    obtain ⟨x6_1, x8_1, rfl, HA, HK1, HO_6, BK203, HB⟩ := hrel
    cases gk with
    | zero => exact absurd HA.out (by simp [segment_table_far.l0])
    | succ k1 =>
     have H := HA.out
     clear HA
     simp only [segment_table_far.l0] at H
     by_cases c7 : 0 ≤ a1
     ·
      rw [if_pos c7] at H
      have c7b0 : decide (0 ≤ a1) = true := decide_eq_true c7
      clear c7
      by_cases c8 : a1 < (l0_1.length : Int)
      ·
       rw [if_pos c8] at H
       have c8b0 : decide (a1 < (l0_1.length : Int)) = true := decide_eq_true c8
       clear c8
       by_cases c9 : x8_1 ≤ (rd l0_1 a1)
       ·
        rw [if_pos c9] at H
        have c9b0 : decide (x8_1 ≤ (rd l0_1 a1)) = true := decide_eq_true c9
        clear c9
        by_cases c10 : a1 < (l0_4.length : Int)
        ·
         rw [if_pos c10] at H
         have c10b0 : decide (a1 < (l0_4.length : Int)) = true := decide_eq_true c10
         clear c10
         by_cases c11 : a1 < (l0_2.length : Int)
         ·
          rw [if_pos c11] at H
          have c11b0 : decide (a1 < (l0_2.length : Int)) = true := decide_eq_true c11
          clear c11
          replace H := Option.bind_eq_some_iff.mp H
          obtain ⟨⟨t208, t209⟩, A120, H⟩ := H
          try dsimp only at H
          have A12 := Aside0.mk A120
          clear A120
          by_cases c13 : t209 = 0
          ·
           rw [if_pos c13] at H
           have c13b0 : (t209 == 0) = true := beq_iff_eq.mpr c13
           have c13b1 : (t209 != 0) = false := bne_eq_false_iff_eq.mpr c13
           clear c13
           by_cases c14 : 0 < (t208.length : Int)
           ·
            rw [if_pos c14] at H
            have c14b0 : decide (0 < (t208.length : Int)) = true := decide_eq_true c14
            have c14b1 : decide (0 < t208.length) = true := decide_eq_true (by omega)
            clear c14
            by_cases c15 : a1 < (l0_3.length : Int)
            ·
             rw [if_pos c15] at H
             have c15b0 : decide (a1 < (l0_3.length : Int)) = true := decide_eq_true c15
             clear c15
             by_cases c16 : (rd t208 0) = 0
             ·
              rw [if_pos c16] at H
              have c16b0 : ((rd t208 0) == 0) = true := beq_iff_eq.mpr c16
              have c16b1 : ((rd t208 0) != 0) = false := bne_eq_false_iff_eq.mpr c16
              clear c16
              have H' := Aside0.mk H
              clear H
              have hcz17_0 : wr.cell? ⟨gb203, 0, none⟩ = some (.string a0_0) := (blk_cell BK203.out 0).trans rfl
              have hcz17_1 : wr.cell? ⟨gb203, 1, none⟩ = some (.slice A0_1 l0_1.length c0_1) := (blk_cell BK203.out 1).trans rfl
              have hcz17_2 : wr.cell? ⟨gb203, 2, none⟩ = some (.slice (some ad204) l0_2.length c0_2) := (blk_cell BK203.out 2).trans rfl
              have hcz17_3 : wr.cell? ⟨gb203, 3, none⟩ = some (.slice A0_3 l0_3.length c0_3) := (blk_cell BK203.out 3).trans rfl
              have hcz17_4 : wr.cell? ⟨gb203, 4, none⟩ = some (.slice A0_4 l0_4.length c0_4) := (blk_cell BK203.out 4).trans rfl
              have hfz17_0 := blk_frozen BK203.out 0
              have hfz17_1 := blk_frozen BK203.out 1
              have hfz17_2 := blk_frozen BK203.out 2
              have hfz17_3 := blk_frozen BK203.out 3
              have hfz17_4 := blk_frozen BK203.out 4
              have p205 : 0 ≤ (a1 : Int) := of_decide_eq_true sA
              have q205 : a1 < (l0_1.length : Int) := of_decide_eq_true sA
              obtain ⟨ad205, e205, hx205_0⟩ := Kd.at_int HR0_1.out a1 p205 q205
              cases e205
              replace hx205_0 := (HB.out.cell (World.block_lt_of_cell? w _ hx205_0)).trans hx205_0
              replace p205 := eq_true p205
              replace q205 := eq_true q205
              try go_wp2
              have n0_ := Aside0.mk (Kd.R_drew HO_6.out)
              have n1_ := Aside0.mk (blk_drew BK203.out)
              have n2_ := Aside0.mk (below_drew1 HB.out)
              clear HO_6
              clear BK203
              clear HB
              have HO_6 := n0_
              have BK203 := n1_
              have HB := n2_
              clear n0_ n1_ n2_
              have p206 : 0 ≤ (a1 : Int) := of_decide_eq_true sA
              have q206 : a1 < (l0_4.length : Int) := of_decide_eq_true sA
              obtain ⟨ad206, e206, hx206_0⟩ := Kd.at_int HR0_4.out a1 p206 q206
              have hw206_0 := hx206_0
              cases e206
              replace hx206_0 := (HB.out.cell (World.block_lt_of_cell? w _ hx206_0)).trans hx206_0
              replace p206 := eq_true p206
              replace q206 := eq_true q206
              have p207 : 0 ≤ (a1 : Int) := of_decide_eq_true sA
              have q207 : a1 < (l0_2.length : Int) := of_decide_eq_true sA
              obtain ⟨ad207, e207, hx207_0⟩ := Kd.at_int HR0_2.out a1 p207 q207
              have hw207_0 := hx207_0
              obtain rfl : ad204 = ad207 := (by injection e207)
              replace hx207_0 := (HB.out.cell (World.block_lt_of_cell? w _ hx207_0)).trans hx207_0
              replace p207 := eq_true p207
              replace q207 := eq_true q207
              refine start_ (n := 24) (S := fun w' => w'.cell? ⟨gb203, 0, none⟩ = some (.string a0_0) ∧ w'.cell? ⟨gb203, 1, none⟩ = some (.slice (some ad205) l0_1.length c0_1) ∧ w'.cell? ⟨gb203, 2, none⟩ = some (.slice (some ad204) l0_2.length c0_2) ∧ w'.cell? ⟨gb203, 3, none⟩ = some (.slice A0_3 l0_3.length c0_3) ∧ w'.cell? ⟨gb203, 4, none⟩ = some (.slice (some ad206) l0_4.length c0_4) ∧ w'.cell? (ad206.add (a1).toNat) = some (.int .i64 (rd l0_4 a1)) ∧ w'.cell? (ad204.add (a1).toNat) = some (.int .i64 (rd l0_2 a1))) (ds := []) #[false, false, false, false, false, false, false, false, false, false, false, false, false, false, false, false, false, false, false, false, false, false, false, false] (by kernel_rfl) rfl rfl ⟨(blk_cell BK203.out 0).trans rfl, (blk_cell BK203.out 1).trans rfl, (blk_cell BK203.out 2).trans rfl, (blk_cell BK203.out 3).trans rfl, (blk_cell BK203.out 4).trans rfl, ((HB.out.cell (World.block_lt_of_cell? w _ hw206_0)).trans hw206_0), ((HB.out.cell (World.block_lt_of_cell? w _ hw207_0)).trans hw207_0)⟩ (fun hHeld => ?_); refine with_tabW segment_table_far.tab6 segment_table_far.bits6 (fun HT_ HW_ => ?_)
              generalize wr.drew = w18 at HO_6 BK203 HB hx206_0 hx207_0 hHeld ⊢
              refine pT_ HT_.out 0 35 ?_
              refine pT_ HT_.out 2 37 ?_
              refine pT_ HT_.out 3 38 ?_
              refine pT_ HT_.out 5 40 ?_
              refine pT_ HT_.out 9 44 ?_
              refine pT_ HT_.out 10 45 ?_
              refine pT_ HT_.out 12 47 ?_
              refine tW_ HT_.out HW_.out 1 36 hHeld ?_
              refine tW_ HT_.out HW_.out 4 39 hHeld ?_
              refine pT_ HT_.out 6 41 ?_
              refine tW_ HT_.out HW_.out 7 42 hHeld ?_
              refine pT_ HT_.out 8 43 ?_
              refine tW_ HT_.out HW_.out 11 46 hHeld ?_
              refine pT_ HT_.out 13 48 ?_
              refine tW_ HT_.out HW_.out 14 49 hHeld ?_
              refine pT_ HT_.out 15 50 ?_
              refine pT_ HT_.out 16 51 ?_
              refine pT_ HT_.out 17 52 ?_
              refine oT_ 18 53 HT_.out (fun K hK => ?_)
              refine goes_ Try.func84 (by kernel_rfl) rfl #[.string a0_0, .int .i64 (wrap64 ((wrap64 ((wrap64 (16 + (wrap64 (2 * (wrap64 ((wrap64 (3 * (l0_1.length : Int))) + a1)))))) + (rd l0_4 a1))) + (wrap64 (2 * (wrap64 (x8_1 - (rd l0_2 a1))))))), .int .i64 1] (by rfl) rfl rfl aA ?_
              with_reducible refine (segment_words.calls a0_0 (wrap64 ((wrap64 ((wrap64 (16 + (wrap64 (2 * (wrap64 ((wrap64 (3 * (l0_1.length : Int))) + a1)))))) + (rd l0_4 a1))) + (wrap64 (2 * (wrap64 (x8_1 - (rd l0_2 a1))))))) 1 t208 t209 _ A12.out).mono ?_
              rintro e w19 ⟨v210, rfl, ho0, hb⟩
              refine ⟨_, rfl, ?_⟩
              have n0_ := Aside0.mk (Kd.R_below (rA HO_6.out) hb)
              have n1_ := Aside0.mk (Kd.R_lower ho0 (below_size (by repeat (first | (with_reducible first | exact HB.out | apply below_alloc | apply pw_below_drewN | apply below_drew1 | refine below_set ?_ GE203.out) | exact HB.out))))
              have n2_ := Aside0.mk (blk_below (g := gb203) (o := .cells #[.string a0_0, .slice (some ad205) l0_1.length c0_1, .slice (some ad204) l0_2.length c0_2, .slice A0_3 l0_3.length c0_3, .slice (some ad206) l0_4.length c0_4] 100 (0, 0)) (by (with_reducible repeat (first | refine blk_drewN ?_ _ | refine blk_drew ?_ | refine blk_alloc ?_ _)); exact BK203.out) hb)
              have n3_ := Aside0.mk (below_step (by repeat (first | (with_reducible first | exact HB.out | apply below_alloc | apply pw_below_drewN | apply below_drew1 | refine below_set ?_ GE203.out) | exact HB.out)) hb)
              clear HO_6
              clear BK203
              clear HB
              have HO_6 := n0_
              have HO211 := n1_
              have BK203 := n2_
              have HB := n3_
              clear n0_ n1_ n2_ n3_
              (try clear hb ho0)
              refine hK.out _ _ ⟨(blk_cell BK203.out 0).trans rfl, (blk_cell BK203.out 1).trans rfl, (blk_cell BK203.out 2).trans rfl, (blk_cell BK203.out 3).trans rfl, (blk_cell BK203.out 4).trans rfl, ((HB.out.cell (World.block_lt_of_cell? w _ hw206_0)).trans hw206_0), ((HB.out.cell (World.block_lt_of_cell? w _ hw207_0)).trans hw207_0)⟩ (fun hHeld => ?_)
              clear hK K
              refine nS_ ?_
              refine pT_ HT_.out 19 34 ?_
              refine pT_ HT_.out 20 54 ?_
              refine pT_ HT_.out 21 55 ?_
              refine pT_ HT_.out 22 9 ?_
              refine pT_ HT_.out 23 10 ?_
              refine done_ (done_of HT_.out (by kernel_rfl)) ?_
              try go_wp2
              have n0_ := Aside0.mk (Kd.R_drew HO_6.out)
              have n1_ := Aside0.mk (Kd.R_drew HO211.out)
              have n2_ := Aside0.mk (blk_drew BK203.out)
              have n3_ := Aside0.mk (below_drew1 HB.out)
              clear HO_6
              clear HO211
              clear BK203
              clear HB
              have HO_6 := n0_
              have HO211 := n1_
              have BK203 := n2_
              have HB := n3_
              clear n0_ n1_ n2_ n3_
              obtain ⟨Ao21, co21, eo21⟩ := Kd.R_slice HO211.out
              (first | subst eo21 | (injection eo21 with f1_ f2_ f3_; have f4_ := f1_.symm; have f5_ := f3_.symm; clear f1_ f2_ f3_; subst f4_; subst f5_))
              have p212 : 0 ≤ (0 : Int) := (by omega)
              have q212 : 0 < (t208.length : Int) := of_decide_eq_true sA
              obtain ⟨ad212, e212, hx212_0⟩ := Kd.at_int (Kd.R_reads' HO211.out).2.2 0 p212 q212
              cases e212
              have qi212 : (0 < t208.length) = True := eq_true (by omega)
              (try rw [show ((0 : Int)).toNat = 0 from rfl] at hx212_0)
              (try rw [Addr.add_zero'] at hx212_0)
              replace p212 := eq_true p212
              replace q212 := eq_true q212
              have p213 : 0 ≤ (a1 : Int) := of_decide_eq_true sA
              have q213 : a1 < (l0_3.length : Int) := of_decide_eq_true sA
              obtain ⟨ad213, e213, hx213_0⟩ := Kd.at_int HR0_3.out a1 p213 q213
              have hw213_0 := hx213_0
              cases e213
              replace hx213_0 := (HB.out.cell (World.block_lt_of_cell? w _ hx213_0)).trans hx213_0
              replace p213 := eq_true p213
              replace q213 := eq_true q213
              refine start_ (n := 11) (S := fun w' => w'.cell? ⟨gb203, 0, none⟩ = some (.string a0_0) ∧ w'.cell? ⟨gb203, 1, none⟩ = some (.slice (some ad205) l0_1.length c0_1) ∧ w'.cell? ⟨gb203, 2, none⟩ = some (.slice (some ad204) l0_2.length c0_2) ∧ w'.cell? ⟨gb203, 3, none⟩ = some (.slice (some ad213) l0_3.length c0_3) ∧ w'.cell? ⟨gb203, 4, none⟩ = some (.slice (some ad206) l0_4.length c0_4) ∧ w'.cell? ad212 = some (.int .i64 (rd t208 0)) ∧ w'.cell? (ad213.add (a1).toNat) = some (.int .i64 (rd l0_3 a1))) (ds := []) #[false, false, false, false, false, false, false, false, false, false, false] (by kernel_rfl) rfl rfl ⟨(blk_cell BK203.out 0).trans rfl, (blk_cell BK203.out 1).trans rfl, (blk_cell BK203.out 2).trans rfl, (blk_cell BK203.out 3).trans rfl, (blk_cell BK203.out 4).trans rfl, hx212_0, ((HB.out.cell (World.block_lt_of_cell? w _ hw213_0)).trans hw213_0)⟩ (fun hHeld => ?_); refine with_tabW segment_table_far.tab9 segment_table_far.bits9 (fun HT_ HW_ => ?_)
              generalize w19.drew = w20 at HO_6 HO211 BK203 HB hx212_0 hx213_0 hHeld ⊢
              refine pT_ HT_.out 0 59 ?_
              refine pT_ HT_.out 1 60 ?_
              refine pT_ HT_.out 3 62 ?_
              refine pT_ HT_.out 5 64 ?_
              refine tW_ HT_.out HW_.out 2 61 hHeld ?_
              refine tW_ HT_.out HW_.out 4 63 hHeld ?_
              refine pT_ HT_.out 6 65 ?_
              refine tW_ HT_.out HW_.out 7 66 hHeld ?_
              refine pT_ HT_.out 8 67 ?_
              refine pT_ HT_.out 9 68 ?_
              refine pT_ HT_.out 10 11 ?_
              refine done_ (done_of HT_.out (by kernel_rfl)) ?_
              have p214 : 0 ≤ (0 : Int) := (by omega)
              have q214 : 0 < (t208.length : Int) := of_decide_eq_true sA
              obtain ⟨ad214, e214, hx214_0⟩ := Kd.at_int (Kd.R_reads' HO211.out).2.2 0 p214 q214
              obtain rfl : ad212 = ad214 := (by injection e214)
              have qi214 : (0 < t208.length) = True := eq_true (by omega)
              (try rw [show ((0 : Int)).toNat = 0 from rfl] at hx214_0)
              (try rw [Addr.add_zero'] at hx214_0)
              replace p214 := eq_true p214
              replace q214 := eq_true q214
              try go_wp2
              go_roundg k1
              case measure => have := HK1.out; omega
              case rel => exact ⟨(x6_1), (wrap64 (x8_1 + 1)), gA, H', ⟨by have := HK1.out; omega⟩, ⟨by (with_reducible repeat (first | apply Kd.R_alloc | apply Kd.R_drewN | apply Kd.R_drew)); exact HO_6.out⟩, ⟨by (with_reducible repeat (first | refine blk_drewN ?_ _ | refine blk_drew ?_ | refine blk_alloc ?_ _)); exact BK203.out⟩, ⟨by repeat (first | (with_reducible first | exact HB.out | apply below_alloc | apply pw_below_drewN | apply below_drew1 | refine below_set ?_ GE203.out) | exact HB.out)⟩⟩
             ·
              rw [if_neg c16] at H
              have c16b0 : ((rd t208 0) == 0) = false := beq_eq_false_iff_ne.mpr c16
              have c16b1 : ((rd t208 0) != 0) = true := bne_iff_ne.mpr c16
              by_cases c22 : (Int.tmod (wrap64 ((rd t208 0) + (rd l0_3 a1))) 65536) = 0
              ·
               rw [if_pos c22] at H
               have c22b0 : ((Int.tmod (wrap64 ((rd t208 0) + (rd l0_3 a1))) 65536) == 0) = true := beq_iff_eq.mpr c22
               have c22b1 : ((Int.tmod (wrap64 ((rd t208 0) + (rd l0_3 a1))) 65536) != 0) = false := bne_eq_false_iff_eq.mpr c22
               clear c22
               have H' := Aside0.mk H
               clear H
               have hcz23_0 : wr.cell? ⟨gb203, 0, none⟩ = some (.string a0_0) := (blk_cell BK203.out 0).trans rfl
               have hcz23_1 : wr.cell? ⟨gb203, 1, none⟩ = some (.slice A0_1 l0_1.length c0_1) := (blk_cell BK203.out 1).trans rfl
               have hcz23_2 : wr.cell? ⟨gb203, 2, none⟩ = some (.slice (some ad204) l0_2.length c0_2) := (blk_cell BK203.out 2).trans rfl
               have hcz23_3 : wr.cell? ⟨gb203, 3, none⟩ = some (.slice A0_3 l0_3.length c0_3) := (blk_cell BK203.out 3).trans rfl
               have hcz23_4 : wr.cell? ⟨gb203, 4, none⟩ = some (.slice A0_4 l0_4.length c0_4) := (blk_cell BK203.out 4).trans rfl
               have hfz23_0 := blk_frozen BK203.out 0
               have hfz23_1 := blk_frozen BK203.out 1
               have hfz23_2 := blk_frozen BK203.out 2
               have hfz23_3 := blk_frozen BK203.out 3
               have hfz23_4 := blk_frozen BK203.out 4
               have p205 : 0 ≤ (a1 : Int) := of_decide_eq_true sA
               have q205 : a1 < (l0_1.length : Int) := of_decide_eq_true sA
               obtain ⟨ad205, e205, hx205_0⟩ := Kd.at_int HR0_1.out a1 p205 q205
               cases e205
               replace hx205_0 := (HB.out.cell (World.block_lt_of_cell? w _ hx205_0)).trans hx205_0
               replace p205 := eq_true p205
               replace q205 := eq_true q205
               try go_wp2
               have n0_ := Aside0.mk (Kd.R_drew HO_6.out)
               have n1_ := Aside0.mk (blk_drew BK203.out)
               have n2_ := Aside0.mk (below_drew1 HB.out)
               clear HO_6
               clear BK203
               clear HB
               have HO_6 := n0_
               have BK203 := n1_
               have HB := n2_
               clear n0_ n1_ n2_
               have p206 : 0 ≤ (a1 : Int) := of_decide_eq_true sA
               have q206 : a1 < (l0_4.length : Int) := of_decide_eq_true sA
               obtain ⟨ad206, e206, hx206_0⟩ := Kd.at_int HR0_4.out a1 p206 q206
               have hw206_0 := hx206_0
               cases e206
               replace hx206_0 := (HB.out.cell (World.block_lt_of_cell? w _ hx206_0)).trans hx206_0
               replace p206 := eq_true p206
               replace q206 := eq_true q206
               have p207 : 0 ≤ (a1 : Int) := of_decide_eq_true sA
               have q207 : a1 < (l0_2.length : Int) := of_decide_eq_true sA
               obtain ⟨ad207, e207, hx207_0⟩ := Kd.at_int HR0_2.out a1 p207 q207
               have hw207_0 := hx207_0
               obtain rfl : ad204 = ad207 := (by injection e207)
               replace hx207_0 := (HB.out.cell (World.block_lt_of_cell? w _ hx207_0)).trans hx207_0
               replace p207 := eq_true p207
               replace q207 := eq_true q207
               refine start_ (n := 24) (S := fun w' => w'.cell? ⟨gb203, 0, none⟩ = some (.string a0_0) ∧ w'.cell? ⟨gb203, 1, none⟩ = some (.slice (some ad205) l0_1.length c0_1) ∧ w'.cell? ⟨gb203, 2, none⟩ = some (.slice (some ad204) l0_2.length c0_2) ∧ w'.cell? ⟨gb203, 3, none⟩ = some (.slice A0_3 l0_3.length c0_3) ∧ w'.cell? ⟨gb203, 4, none⟩ = some (.slice (some ad206) l0_4.length c0_4) ∧ w'.cell? (ad206.add (a1).toNat) = some (.int .i64 (rd l0_4 a1)) ∧ w'.cell? (ad204.add (a1).toNat) = some (.int .i64 (rd l0_2 a1))) (ds := []) #[false, false, false, false, false, false, false, false, false, false, false, false, false, false, false, false, false, false, false, false, false, false, false, false] (by kernel_rfl) rfl rfl ⟨(blk_cell BK203.out 0).trans rfl, (blk_cell BK203.out 1).trans rfl, (blk_cell BK203.out 2).trans rfl, (blk_cell BK203.out 3).trans rfl, (blk_cell BK203.out 4).trans rfl, ((HB.out.cell (World.block_lt_of_cell? w _ hw206_0)).trans hw206_0), ((HB.out.cell (World.block_lt_of_cell? w _ hw207_0)).trans hw207_0)⟩ (fun hHeld => ?_); refine with_tabW segment_table_far.tab6 segment_table_far.bits6 (fun HT_ HW_ => ?_)
               generalize wr.drew = w24 at HO_6 BK203 HB hx206_0 hx207_0 hHeld ⊢
               refine pT_ HT_.out 0 35 ?_
               refine pT_ HT_.out 2 37 ?_
               refine pT_ HT_.out 3 38 ?_
               refine pT_ HT_.out 5 40 ?_
               refine pT_ HT_.out 9 44 ?_
               refine pT_ HT_.out 10 45 ?_
               refine pT_ HT_.out 12 47 ?_
               refine tW_ HT_.out HW_.out 1 36 hHeld ?_
               refine tW_ HT_.out HW_.out 4 39 hHeld ?_
               refine pT_ HT_.out 6 41 ?_
               refine tW_ HT_.out HW_.out 7 42 hHeld ?_
               refine pT_ HT_.out 8 43 ?_
               refine tW_ HT_.out HW_.out 11 46 hHeld ?_
               refine pT_ HT_.out 13 48 ?_
               refine tW_ HT_.out HW_.out 14 49 hHeld ?_
               refine pT_ HT_.out 15 50 ?_
               refine pT_ HT_.out 16 51 ?_
               refine pT_ HT_.out 17 52 ?_
               refine oT_ 18 53 HT_.out (fun K hK => ?_)
               refine goes_ Try.func84 (by kernel_rfl) rfl #[.string a0_0, .int .i64 (wrap64 ((wrap64 ((wrap64 (16 + (wrap64 (2 * (wrap64 ((wrap64 (3 * (l0_1.length : Int))) + a1)))))) + (rd l0_4 a1))) + (wrap64 (2 * (wrap64 (x8_1 - (rd l0_2 a1))))))), .int .i64 1] (by rfl) rfl rfl aA ?_
               with_reducible refine (segment_words.calls a0_0 (wrap64 ((wrap64 ((wrap64 (16 + (wrap64 (2 * (wrap64 ((wrap64 (3 * (l0_1.length : Int))) + a1)))))) + (rd l0_4 a1))) + (wrap64 (2 * (wrap64 (x8_1 - (rd l0_2 a1))))))) 1 t208 t209 _ A12.out).mono ?_
               rintro e w25 ⟨v210, rfl, ho0, hb⟩
               refine ⟨_, rfl, ?_⟩
               have n0_ := Aside0.mk (Kd.R_below (rA HO_6.out) hb)
               have n1_ := Aside0.mk (Kd.R_lower ho0 (below_size (by repeat (first | (with_reducible first | exact HB.out | apply below_alloc | apply pw_below_drewN | apply below_drew1 | refine below_set ?_ GE203.out) | exact HB.out))))
               have n2_ := Aside0.mk (blk_below (g := gb203) (o := .cells #[.string a0_0, .slice (some ad205) l0_1.length c0_1, .slice (some ad204) l0_2.length c0_2, .slice A0_3 l0_3.length c0_3, .slice (some ad206) l0_4.length c0_4] 100 (0, 0)) (by (with_reducible repeat (first | refine blk_drewN ?_ _ | refine blk_drew ?_ | refine blk_alloc ?_ _)); exact BK203.out) hb)
               have n3_ := Aside0.mk (below_step (by repeat (first | (with_reducible first | exact HB.out | apply below_alloc | apply pw_below_drewN | apply below_drew1 | refine below_set ?_ GE203.out) | exact HB.out)) hb)
               clear HO_6
               clear BK203
               clear HB
               have HO_6 := n0_
               have HO211 := n1_
               have BK203 := n2_
               have HB := n3_
               clear n0_ n1_ n2_ n3_
               (try clear hb ho0)
               refine hK.out _ _ ⟨(blk_cell BK203.out 0).trans rfl, (blk_cell BK203.out 1).trans rfl, (blk_cell BK203.out 2).trans rfl, (blk_cell BK203.out 3).trans rfl, (blk_cell BK203.out 4).trans rfl, ((HB.out.cell (World.block_lt_of_cell? w _ hw206_0)).trans hw206_0), ((HB.out.cell (World.block_lt_of_cell? w _ hw207_0)).trans hw207_0)⟩ (fun hHeld => ?_)
               clear hK K
               refine nS_ ?_
               refine pT_ HT_.out 19 34 ?_
               refine pT_ HT_.out 20 54 ?_
               refine pT_ HT_.out 21 55 ?_
               refine pT_ HT_.out 22 9 ?_
               refine pT_ HT_.out 23 10 ?_
               refine done_ (done_of HT_.out (by kernel_rfl)) ?_
               try go_wp2
               have n0_ := Aside0.mk (Kd.R_drew HO_6.out)
               have n1_ := Aside0.mk (Kd.R_drew HO211.out)
               have n2_ := Aside0.mk (blk_drew BK203.out)
               have n3_ := Aside0.mk (below_drew1 HB.out)
               clear HO_6
               clear HO211
               clear BK203
               clear HB
               have HO_6 := n0_
               have HO211 := n1_
               have BK203 := n2_
               have HB := n3_
               clear n0_ n1_ n2_ n3_
               obtain ⟨Ao27, co27, eo27⟩ := Kd.R_slice HO211.out
               (first | subst eo27 | (injection eo27 with f1_ f2_ f3_; have f4_ := f1_.symm; have f5_ := f3_.symm; clear f1_ f2_ f3_; subst f4_; subst f5_))
               have p212 : 0 ≤ (0 : Int) := (by omega)
               have q212 : 0 < (t208.length : Int) := of_decide_eq_true sA
               obtain ⟨ad212, e212, hx212_0⟩ := Kd.at_int (Kd.R_reads' HO211.out).2.2 0 p212 q212
               cases e212
               have qi212 : (0 < t208.length) = True := eq_true (by omega)
               (try rw [show ((0 : Int)).toNat = 0 from rfl] at hx212_0)
               (try rw [Addr.add_zero'] at hx212_0)
               replace p212 := eq_true p212
               replace q212 := eq_true q212
               have p213 : 0 ≤ (a1 : Int) := of_decide_eq_true sA
               have q213 : a1 < (l0_3.length : Int) := of_decide_eq_true sA
               obtain ⟨ad213, e213, hx213_0⟩ := Kd.at_int HR0_3.out a1 p213 q213
               have hw213_0 := hx213_0
               cases e213
               replace hx213_0 := (HB.out.cell (World.block_lt_of_cell? w _ hx213_0)).trans hx213_0
               replace p213 := eq_true p213
               replace q213 := eq_true q213
               refine start_ (n := 11) (S := fun w' => w'.cell? ⟨gb203, 0, none⟩ = some (.string a0_0) ∧ w'.cell? ⟨gb203, 1, none⟩ = some (.slice (some ad205) l0_1.length c0_1) ∧ w'.cell? ⟨gb203, 2, none⟩ = some (.slice (some ad204) l0_2.length c0_2) ∧ w'.cell? ⟨gb203, 3, none⟩ = some (.slice (some ad213) l0_3.length c0_3) ∧ w'.cell? ⟨gb203, 4, none⟩ = some (.slice (some ad206) l0_4.length c0_4) ∧ w'.cell? ad212 = some (.int .i64 (rd t208 0)) ∧ w'.cell? (ad213.add (a1).toNat) = some (.int .i64 (rd l0_3 a1))) (ds := []) #[false, false, false, false, false, false, false, false, false, false, false] (by kernel_rfl) rfl rfl ⟨(blk_cell BK203.out 0).trans rfl, (blk_cell BK203.out 1).trans rfl, (blk_cell BK203.out 2).trans rfl, (blk_cell BK203.out 3).trans rfl, (blk_cell BK203.out 4).trans rfl, hx212_0, ((HB.out.cell (World.block_lt_of_cell? w _ hw213_0)).trans hw213_0)⟩ (fun hHeld => ?_); refine with_tabW segment_table_far.tab9 segment_table_far.bits9 (fun HT_ HW_ => ?_)
               generalize w25.drew = w26 at HO_6 HO211 BK203 HB hx212_0 hx213_0 hHeld ⊢
               refine pT_ HT_.out 0 59 ?_
               refine pT_ HT_.out 1 60 ?_
               refine pT_ HT_.out 3 62 ?_
               refine pT_ HT_.out 5 64 ?_
               refine tW_ HT_.out HW_.out 2 61 hHeld ?_
               refine tW_ HT_.out HW_.out 4 63 hHeld ?_
               refine pT_ HT_.out 6 65 ?_
               refine tW_ HT_.out HW_.out 7 66 hHeld ?_
               refine pT_ HT_.out 8 67 ?_
               refine pT_ HT_.out 9 68 ?_
               refine pT_ HT_.out 10 11 ?_
               refine done_ (done_of HT_.out (by kernel_rfl)) ?_
               have p214 : 0 ≤ (0 : Int) := (by omega)
               have q214 : 0 < (t208.length : Int) := of_decide_eq_true sA
               obtain ⟨ad214, e214, hx214_0⟩ := Kd.at_int (Kd.R_reads' HO211.out).2.2 0 p214 q214
               obtain rfl : ad212 = ad214 := (by injection e214)
               have qi214 : (0 < t208.length) = True := eq_true (by omega)
               (try rw [show ((0 : Int)).toNat = 0 from rfl] at hx214_0)
               (try rw [Addr.add_zero'] at hx214_0)
               replace p214 := eq_true p214
               replace q214 := eq_true q214
               try go_wp2
               go_roundg k1
               case measure => have := HK1.out; omega
               case rel => exact ⟨(x6_1), (wrap64 (x8_1 + 1)), gA, H', ⟨by have := HK1.out; omega⟩, ⟨by (with_reducible repeat (first | apply Kd.R_alloc | apply Kd.R_drewN | apply Kd.R_drew)); exact HO_6.out⟩, ⟨by (with_reducible repeat (first | refine blk_drewN ?_ _ | refine blk_drew ?_ | refine blk_alloc ?_ _)); exact BK203.out⟩, ⟨by repeat (first | (with_reducible first | exact HB.out | apply below_alloc | apply pw_below_drewN | apply below_drew1 | refine below_set ?_ GE203.out) | exact HB.out)⟩⟩
              ·
               rw [if_neg c22] at H
               have c22b0 : ((Int.tmod (wrap64 ((rd t208 0) + (rd l0_3 a1))) 65536) == 0) = false := beq_eq_false_iff_ne.mpr c22
               have c22b1 : ((Int.tmod (wrap64 ((rd t208 0) + (rd l0_3 a1))) 65536) != 0) = true := bne_iff_ne.mpr c22
               by_cases c28 : x6_1.length < 4398046511104
               ·
                rw [if_pos c28] at H
                have LMc28 := Aside0.mk c28
                clear c28
                obtain ⟨y215, hy215⟩ : ∃ y_ : List (S50), y_ = (x6_1 ++ [(⟨x8_1, x8_1, Int.tmod (wrap64 ((rd t208 0) + (rd l0_3 a1))) 65536, 1⟩ : S50)]) := ⟨_, rfl⟩
                replace H : (segment_table_far.l0 k1 a1 y215 (wrap64 (16 + (wrap64 (2 * (wrap64 ((wrap64 (3 * (l0_1.length : Int))) + a1)))))) (wrap64 (x8_1 + 1)) a0_0 l0_1 l0_2 l0_3 l0_4) = some (r1, r2) := by first | (rw [hy215]; with_reducible exact H) | (have H2_ := (Option.bind_some _ _).symm.trans H; rw [hy215]; with_reducible exact H2_) | (have H2_ := (Option.bind_some _ _).symm.trans H; with_reducible exact H2_) | with_reducible exact H | (rw [hy215]; exact H) | exact H
                have Ny215 := Aside0.mk hy215
                clear hy215
                have H' := Aside0.mk H
                clear H
                have hcz29_0 : wr.cell? ⟨gb203, 0, none⟩ = some (.string a0_0) := (blk_cell BK203.out 0).trans rfl
                have hcz29_1 : wr.cell? ⟨gb203, 1, none⟩ = some (.slice A0_1 l0_1.length c0_1) := (blk_cell BK203.out 1).trans rfl
                have hcz29_2 : wr.cell? ⟨gb203, 2, none⟩ = some (.slice (some ad204) l0_2.length c0_2) := (blk_cell BK203.out 2).trans rfl
                have hcz29_3 : wr.cell? ⟨gb203, 3, none⟩ = some (.slice A0_3 l0_3.length c0_3) := (blk_cell BK203.out 3).trans rfl
                have hcz29_4 : wr.cell? ⟨gb203, 4, none⟩ = some (.slice A0_4 l0_4.length c0_4) := (blk_cell BK203.out 4).trans rfl
                have hfz29_0 := blk_frozen BK203.out 0
                have hfz29_1 := blk_frozen BK203.out 1
                have hfz29_2 := blk_frozen BK203.out 2
                have hfz29_3 := blk_frozen BK203.out 3
                have hfz29_4 := blk_frozen BK203.out 4
                have p205 : 0 ≤ (a1 : Int) := of_decide_eq_true sA
                have q205 : a1 < (l0_1.length : Int) := of_decide_eq_true sA
                obtain ⟨ad205, e205, hx205_0⟩ := Kd.at_int HR0_1.out a1 p205 q205
                cases e205
                replace hx205_0 := (HB.out.cell (World.block_lt_of_cell? w _ hx205_0)).trans hx205_0
                replace p205 := eq_true p205
                replace q205 := eq_true q205
                try go_wp2
                have n0_ := Aside0.mk (Kd.R_drew HO_6.out)
                have n1_ := Aside0.mk (blk_drew BK203.out)
                have n2_ := Aside0.mk (below_drew1 HB.out)
                clear HO_6
                clear BK203
                clear HB
                have HO_6 := n0_
                have BK203 := n1_
                have HB := n2_
                clear n0_ n1_ n2_
                have p206 : 0 ≤ (a1 : Int) := of_decide_eq_true sA
                have q206 : a1 < (l0_4.length : Int) := of_decide_eq_true sA
                obtain ⟨ad206, e206, hx206_0⟩ := Kd.at_int HR0_4.out a1 p206 q206
                have hw206_0 := hx206_0
                cases e206
                replace hx206_0 := (HB.out.cell (World.block_lt_of_cell? w _ hx206_0)).trans hx206_0
                replace p206 := eq_true p206
                replace q206 := eq_true q206
                have p207 : 0 ≤ (a1 : Int) := of_decide_eq_true sA
                have q207 : a1 < (l0_2.length : Int) := of_decide_eq_true sA
                obtain ⟨ad207, e207, hx207_0⟩ := Kd.at_int HR0_2.out a1 p207 q207
                have hw207_0 := hx207_0
                obtain rfl : ad204 = ad207 := (by injection e207)
                replace hx207_0 := (HB.out.cell (World.block_lt_of_cell? w _ hx207_0)).trans hx207_0
                replace p207 := eq_true p207
                replace q207 := eq_true q207
                refine start_ (n := 24) (S := fun w' => w'.cell? ⟨gb203, 0, none⟩ = some (.string a0_0) ∧ w'.cell? ⟨gb203, 1, none⟩ = some (.slice (some ad205) l0_1.length c0_1) ∧ w'.cell? ⟨gb203, 2, none⟩ = some (.slice (some ad204) l0_2.length c0_2) ∧ w'.cell? ⟨gb203, 3, none⟩ = some (.slice A0_3 l0_3.length c0_3) ∧ w'.cell? ⟨gb203, 4, none⟩ = some (.slice (some ad206) l0_4.length c0_4) ∧ w'.cell? (ad206.add (a1).toNat) = some (.int .i64 (rd l0_4 a1)) ∧ w'.cell? (ad204.add (a1).toNat) = some (.int .i64 (rd l0_2 a1))) (ds := []) #[false, false, false, false, false, false, false, false, false, false, false, false, false, false, false, false, false, false, false, false, false, false, false, false] (by kernel_rfl) rfl rfl ⟨(blk_cell BK203.out 0).trans rfl, (blk_cell BK203.out 1).trans rfl, (blk_cell BK203.out 2).trans rfl, (blk_cell BK203.out 3).trans rfl, (blk_cell BK203.out 4).trans rfl, ((HB.out.cell (World.block_lt_of_cell? w _ hw206_0)).trans hw206_0), ((HB.out.cell (World.block_lt_of_cell? w _ hw207_0)).trans hw207_0)⟩ (fun hHeld => ?_); refine with_tabW segment_table_far.tab6 segment_table_far.bits6 (fun HT_ HW_ => ?_)
                generalize wr.drew = w30 at HO_6 BK203 HB hx206_0 hx207_0 hHeld ⊢
                refine pT_ HT_.out 0 35 ?_
                refine pT_ HT_.out 2 37 ?_
                refine pT_ HT_.out 3 38 ?_
                refine pT_ HT_.out 5 40 ?_
                refine pT_ HT_.out 9 44 ?_
                refine pT_ HT_.out 10 45 ?_
                refine pT_ HT_.out 12 47 ?_
                refine tW_ HT_.out HW_.out 1 36 hHeld ?_
                refine tW_ HT_.out HW_.out 4 39 hHeld ?_
                refine pT_ HT_.out 6 41 ?_
                refine tW_ HT_.out HW_.out 7 42 hHeld ?_
                refine pT_ HT_.out 8 43 ?_
                refine tW_ HT_.out HW_.out 11 46 hHeld ?_
                refine pT_ HT_.out 13 48 ?_
                refine tW_ HT_.out HW_.out 14 49 hHeld ?_
                refine pT_ HT_.out 15 50 ?_
                refine pT_ HT_.out 16 51 ?_
                refine pT_ HT_.out 17 52 ?_
                refine oT_ 18 53 HT_.out (fun K hK => ?_)
                refine goes_ Try.func84 (by kernel_rfl) rfl #[.string a0_0, .int .i64 (wrap64 ((wrap64 ((wrap64 (16 + (wrap64 (2 * (wrap64 ((wrap64 (3 * (l0_1.length : Int))) + a1)))))) + (rd l0_4 a1))) + (wrap64 (2 * (wrap64 (x8_1 - (rd l0_2 a1))))))), .int .i64 1] (by rfl) rfl rfl aA ?_
                with_reducible refine (segment_words.calls a0_0 (wrap64 ((wrap64 ((wrap64 (16 + (wrap64 (2 * (wrap64 ((wrap64 (3 * (l0_1.length : Int))) + a1)))))) + (rd l0_4 a1))) + (wrap64 (2 * (wrap64 (x8_1 - (rd l0_2 a1))))))) 1 t208 t209 _ A12.out).mono ?_
                rintro e w31 ⟨v210, rfl, ho0, hb⟩
                refine ⟨_, rfl, ?_⟩
                have n0_ := Aside0.mk (Kd.R_below (rA HO_6.out) hb)
                have n1_ := Aside0.mk (Kd.R_lower ho0 (below_size (by repeat (first | (with_reducible first | exact HB.out | apply below_alloc | apply pw_below_drewN | apply below_drew1 | refine below_set ?_ GE203.out) | exact HB.out))))
                have n2_ := Aside0.mk (blk_below (g := gb203) (o := .cells #[.string a0_0, .slice (some ad205) l0_1.length c0_1, .slice (some ad204) l0_2.length c0_2, .slice A0_3 l0_3.length c0_3, .slice (some ad206) l0_4.length c0_4] 100 (0, 0)) (by (with_reducible repeat (first | refine blk_drewN ?_ _ | refine blk_drew ?_ | refine blk_alloc ?_ _)); exact BK203.out) hb)
                have n3_ := Aside0.mk (below_step (by repeat (first | (with_reducible first | exact HB.out | apply below_alloc | apply pw_below_drewN | apply below_drew1 | refine below_set ?_ GE203.out) | exact HB.out)) hb)
                clear HO_6
                clear BK203
                clear HB
                have HO_6 := n0_
                have HO211 := n1_
                have BK203 := n2_
                have HB := n3_
                clear n0_ n1_ n2_ n3_
                (try clear hb ho0)
                refine hK.out _ _ ⟨(blk_cell BK203.out 0).trans rfl, (blk_cell BK203.out 1).trans rfl, (blk_cell BK203.out 2).trans rfl, (blk_cell BK203.out 3).trans rfl, (blk_cell BK203.out 4).trans rfl, ((HB.out.cell (World.block_lt_of_cell? w _ hw206_0)).trans hw206_0), ((HB.out.cell (World.block_lt_of_cell? w _ hw207_0)).trans hw207_0)⟩ (fun hHeld => ?_)
                clear hK K
                refine nS_ ?_
                refine pT_ HT_.out 19 34 ?_
                refine pT_ HT_.out 20 54 ?_
                refine pT_ HT_.out 21 55 ?_
                refine pT_ HT_.out 22 9 ?_
                refine pT_ HT_.out 23 10 ?_
                refine done_ (done_of HT_.out (by kernel_rfl)) ?_
                try go_wp2
                have n0_ := Aside0.mk (Kd.R_drew HO_6.out)
                have n1_ := Aside0.mk (Kd.R_drew HO211.out)
                have n2_ := Aside0.mk (blk_drew BK203.out)
                have n3_ := Aside0.mk (below_drew1 HB.out)
                clear HO_6
                clear HO211
                clear BK203
                clear HB
                have HO_6 := n0_
                have HO211 := n1_
                have BK203 := n2_
                have HB := n3_
                clear n0_ n1_ n2_ n3_
                obtain ⟨Ao33, co33, eo33⟩ := Kd.R_slice HO211.out
                (first | subst eo33 | (injection eo33 with f1_ f2_ f3_; have f4_ := f1_.symm; have f5_ := f3_.symm; clear f1_ f2_ f3_; subst f4_; subst f5_))
                have p212 : 0 ≤ (0 : Int) := (by omega)
                have q212 : 0 < (t208.length : Int) := of_decide_eq_true sA
                obtain ⟨ad212, e212, hx212_0⟩ := Kd.at_int (Kd.R_reads' HO211.out).2.2 0 p212 q212
                cases e212
                have qi212 : (0 < t208.length) = True := eq_true (by omega)
                (try rw [show ((0 : Int)).toNat = 0 from rfl] at hx212_0)
                (try rw [Addr.add_zero'] at hx212_0)
                replace p212 := eq_true p212
                replace q212 := eq_true q212
                have p213 : 0 ≤ (a1 : Int) := of_decide_eq_true sA
                have q213 : a1 < (l0_3.length : Int) := of_decide_eq_true sA
                obtain ⟨ad213, e213, hx213_0⟩ := Kd.at_int HR0_3.out a1 p213 q213
                have hw213_0 := hx213_0
                cases e213
                replace hx213_0 := (HB.out.cell (World.block_lt_of_cell? w _ hx213_0)).trans hx213_0
                replace p213 := eq_true p213
                replace q213 := eq_true q213
                refine start_ (n := 11) (S := fun w' => w'.cell? ⟨gb203, 0, none⟩ = some (.string a0_0) ∧ w'.cell? ⟨gb203, 1, none⟩ = some (.slice (some ad205) l0_1.length c0_1) ∧ w'.cell? ⟨gb203, 2, none⟩ = some (.slice (some ad204) l0_2.length c0_2) ∧ w'.cell? ⟨gb203, 3, none⟩ = some (.slice (some ad213) l0_3.length c0_3) ∧ w'.cell? ⟨gb203, 4, none⟩ = some (.slice (some ad206) l0_4.length c0_4) ∧ w'.cell? ad212 = some (.int .i64 (rd t208 0)) ∧ w'.cell? (ad213.add (a1).toNat) = some (.int .i64 (rd l0_3 a1))) (ds := []) #[false, false, false, false, false, false, false, false, false, false, false] (by kernel_rfl) rfl rfl ⟨(blk_cell BK203.out 0).trans rfl, (blk_cell BK203.out 1).trans rfl, (blk_cell BK203.out 2).trans rfl, (blk_cell BK203.out 3).trans rfl, (blk_cell BK203.out 4).trans rfl, hx212_0, ((HB.out.cell (World.block_lt_of_cell? w _ hw213_0)).trans hw213_0)⟩ (fun hHeld => ?_); refine with_tabW segment_table_far.tab9 segment_table_far.bits9 (fun HT_ HW_ => ?_)
                generalize w31.drew = w32 at HO_6 HO211 BK203 HB hx212_0 hx213_0 hHeld ⊢
                refine pT_ HT_.out 0 59 ?_
                refine pT_ HT_.out 1 60 ?_
                refine pT_ HT_.out 3 62 ?_
                refine pT_ HT_.out 5 64 ?_
                refine tW_ HT_.out HW_.out 2 61 hHeld ?_
                refine tW_ HT_.out HW_.out 4 63 hHeld ?_
                refine pT_ HT_.out 6 65 ?_
                refine tW_ HT_.out HW_.out 7 66 hHeld ?_
                refine pT_ HT_.out 8 67 ?_
                refine pT_ HT_.out 9 68 ?_
                refine pT_ HT_.out 10 11 ?_
                refine done_ (done_of HT_.out (by kernel_rfl)) ?_
                have p214 : 0 ≤ (0 : Int) := (by omega)
                have q214 : 0 < (t208.length : Int) := of_decide_eq_true sA
                obtain ⟨ad214, e214, hx214_0⟩ := Kd.at_int (Kd.R_reads' HO211.out).2.2 0 p214 q214
                obtain rfl : ad212 = ad214 := (by injection e214)
                have qi214 : (0 < t208.length) = True := eq_true (by omega)
                (try rw [show ((0 : Int)).toNat = 0 from rfl] at hx214_0)
                (try rw [Addr.add_zero'] at hx214_0)
                replace p214 := eq_true p214
                replace q214 := eq_true q214
                try go_wp2_with (first | ((with_reducible refine gate_builtin (b := .append) (xs := #[.tmp 77, .tmp 82]) rfl ?_); at_builtin; refine Kd.R_append k50 (w0 := w) w.heap.size rfl (.tmp 77) (.tmp 82) 22 50 (.agg #[(.int .i64 0), (.int .i64 0), (.int .i64 0), (.int .i64 0)]) 32 rfl Try.underlying22 info50 rfl (by decide) (by omega) u6 x6_1 (⟨x8_1, x8_1, Int.tmod (wrap64 ((rd t208 0) + (rd l0_3 a1))) 65536, 1⟩ : S50) [.int .i64 x8_1, .int .i64 x8_1, .int .i64 (Int.tmod (wrap64 ((rd t208 0) + (rd l0_3 a1))) 65536), .int .i64 1] (fun _ => True) (fun _ => False) rfl rfl ?aP (fun _ hk => hk.elim) ?aF ?aO ?aB ?aS ?aL ?_; (case aP => exact k50_mkM _ _ _ (⟨x8_1, x8_1, Int.tmod (wrap64 ((rd t208 0) + (rd l0_3 a1))) 65536, 1⟩ : S50)); (case aB => exact (by repeat (first | (with_reducible first | exact HB.out | apply below_alloc | apply pw_below_drewN | apply below_drew1 | refine below_set ?_ GE203.out) | exact HB.out))); (case aF => exact (fun _ _ => trivial)); (case aO => exact (rA HO_6.out)); (case aS => exact (below_size (by repeat (first | (with_reducible first | exact HB.out | apply below_alloc | apply pw_below_drewN | apply below_drew1 | refine below_set ?_ GE203.out) | exact HB.out)))); (case aL => have := LMc28.out; omega); intro v216 w34 ho hb hg hat; rw [← Ny215.out] at ho; have n0_ := Aside0.mk (blk_grown (g := gb203) (o := .cells #[.string a0_0, .slice (some ad205) l0_1.length c0_1, .slice (some ad204) l0_2.length c0_2, .slice (some ad213) l0_3.length c0_3, .slice (some ad206) l0_4.length c0_4] 100 (0, 0)) (by (with_reducible repeat (first | refine blk_drewN ?_ _ | refine blk_drew ?_ | refine blk_alloc ?_ _)); exact BK203.out) hg (Kd.R_ne HO_6.out BK203.out (by decide))); have n1_ := Aside0.mk (Kd.R_over' (rA HO211.out) (Kd.R_typed (rA HO_6.out)) (by decide) hg); have n2_ := Aside0.mk (hb); have n3_ := Aside0.mk (ho); clear BK203; clear HO211; clear HB; clear HO_6; have BK203 := n0_; have HO211 := n1_; have HB := n2_; have HO217 := n3_; clear n0_ n1_ n2_ n3_; clear ho hb hg hat))
                go_roundg k1
                case measure => have := HK1.out; omega
                case rel => exact ⟨(y215), (wrap64 (x8_1 + 1)), gA, H', ⟨by have := HK1.out; omega⟩, ⟨by (with_reducible repeat (first | apply Kd.R_alloc | apply Kd.R_drewN | apply Kd.R_drew)); exact HO217.out⟩, ⟨by (with_reducible repeat (first | refine blk_drewN ?_ _ | refine blk_drew ?_ | refine blk_alloc ?_ _)); exact BK203.out⟩, ⟨by repeat (first | (with_reducible first | exact HB.out | apply below_alloc | apply pw_below_drewN | apply below_drew1 | refine below_set ?_ GE203.out) | exact HB.out)⟩⟩
               ·
                rw [if_neg c28] at H
                exact absurd H (by simp)
            ·
             rw [if_neg c15] at H
             exact absurd H (by simp)
           ·
            rw [if_neg c14] at H
            exact absurd H (by simp)
          ·
           rw [if_neg c13] at H
           have c13b0 : (t209 == 0) = false := beq_eq_false_iff_ne.mpr c13
           have c13b1 : (t209 != 0) = true := bne_iff_ne.mpr c13
           simp only [Option.some.injEq, Prod.mk.injEq] at H
           obtain ⟨rfl, rfl⟩ := H
           have hcz35_0 : wr.cell? ⟨gb203, 0, none⟩ = some (.string a0_0) := (blk_cell BK203.out 0).trans rfl
           have hcz35_1 : wr.cell? ⟨gb203, 1, none⟩ = some (.slice A0_1 l0_1.length c0_1) := (blk_cell BK203.out 1).trans rfl
           have hcz35_2 : wr.cell? ⟨gb203, 2, none⟩ = some (.slice (some ad204) l0_2.length c0_2) := (blk_cell BK203.out 2).trans rfl
           have hcz35_3 : wr.cell? ⟨gb203, 3, none⟩ = some (.slice A0_3 l0_3.length c0_3) := (blk_cell BK203.out 3).trans rfl
           have hcz35_4 : wr.cell? ⟨gb203, 4, none⟩ = some (.slice A0_4 l0_4.length c0_4) := (blk_cell BK203.out 4).trans rfl
           have hfz35_0 := blk_frozen BK203.out 0
           have hfz35_1 := blk_frozen BK203.out 1
           have hfz35_2 := blk_frozen BK203.out 2
           have hfz35_3 := blk_frozen BK203.out 3
           have hfz35_4 := blk_frozen BK203.out 4
           have p205 : 0 ≤ (a1 : Int) := of_decide_eq_true sA
           have q205 : a1 < (l0_1.length : Int) := of_decide_eq_true sA
           obtain ⟨ad205, e205, hx205_0⟩ := Kd.at_int HR0_1.out a1 p205 q205
           cases e205
           replace hx205_0 := (HB.out.cell (World.block_lt_of_cell? w _ hx205_0)).trans hx205_0
           replace p205 := eq_true p205
           replace q205 := eq_true q205
           try go_wp2
           have n0_ := Aside0.mk (Kd.R_drew HO_6.out)
           have n1_ := Aside0.mk (blk_drew BK203.out)
           have n2_ := Aside0.mk (below_drew1 HB.out)
           clear HO_6
           clear BK203
           clear HB
           have HO_6 := n0_
           have BK203 := n1_
           have HB := n2_
           clear n0_ n1_ n2_
           have p206 : 0 ≤ (a1 : Int) := of_decide_eq_true sA
           have q206 : a1 < (l0_4.length : Int) := of_decide_eq_true sA
           obtain ⟨ad206, e206, hx206_0⟩ := Kd.at_int HR0_4.out a1 p206 q206
           have hw206_0 := hx206_0
           cases e206
           replace hx206_0 := (HB.out.cell (World.block_lt_of_cell? w _ hx206_0)).trans hx206_0
           replace p206 := eq_true p206
           replace q206 := eq_true q206
           have p207 : 0 ≤ (a1 : Int) := of_decide_eq_true sA
           have q207 : a1 < (l0_2.length : Int) := of_decide_eq_true sA
           obtain ⟨ad207, e207, hx207_0⟩ := Kd.at_int HR0_2.out a1 p207 q207
           have hw207_0 := hx207_0
           obtain rfl : ad204 = ad207 := (by injection e207)
           replace hx207_0 := (HB.out.cell (World.block_lt_of_cell? w _ hx207_0)).trans hx207_0
           replace p207 := eq_true p207
           replace q207 := eq_true q207
           refine start_ (n := 24) (S := fun w' => w'.cell? ⟨gb203, 0, none⟩ = some (.string a0_0) ∧ w'.cell? ⟨gb203, 1, none⟩ = some (.slice (some ad205) l0_1.length c0_1) ∧ w'.cell? ⟨gb203, 2, none⟩ = some (.slice (some ad204) l0_2.length c0_2) ∧ w'.cell? ⟨gb203, 3, none⟩ = some (.slice A0_3 l0_3.length c0_3) ∧ w'.cell? ⟨gb203, 4, none⟩ = some (.slice (some ad206) l0_4.length c0_4) ∧ w'.cell? (ad206.add (a1).toNat) = some (.int .i64 (rd l0_4 a1)) ∧ w'.cell? (ad204.add (a1).toNat) = some (.int .i64 (rd l0_2 a1))) (ds := []) #[false, false, false, false, false, false, false, false, false, false, false, false, false, false, false, false, false, false, false, false, false, false, false, false] (by kernel_rfl) rfl rfl ⟨(blk_cell BK203.out 0).trans rfl, (blk_cell BK203.out 1).trans rfl, (blk_cell BK203.out 2).trans rfl, (blk_cell BK203.out 3).trans rfl, (blk_cell BK203.out 4).trans rfl, ((HB.out.cell (World.block_lt_of_cell? w _ hw206_0)).trans hw206_0), ((HB.out.cell (World.block_lt_of_cell? w _ hw207_0)).trans hw207_0)⟩ (fun hHeld => ?_); refine with_tabW segment_table_far.tab6 segment_table_far.bits6 (fun HT_ HW_ => ?_)
           generalize wr.drew = w36 at HO_6 BK203 HB hx206_0 hx207_0 hHeld ⊢
           refine pT_ HT_.out 0 35 ?_
           refine pT_ HT_.out 2 37 ?_
           refine pT_ HT_.out 3 38 ?_
           refine pT_ HT_.out 5 40 ?_
           refine pT_ HT_.out 9 44 ?_
           refine pT_ HT_.out 10 45 ?_
           refine pT_ HT_.out 12 47 ?_
           refine tW_ HT_.out HW_.out 1 36 hHeld ?_
           refine tW_ HT_.out HW_.out 4 39 hHeld ?_
           refine pT_ HT_.out 6 41 ?_
           refine tW_ HT_.out HW_.out 7 42 hHeld ?_
           refine pT_ HT_.out 8 43 ?_
           refine tW_ HT_.out HW_.out 11 46 hHeld ?_
           refine pT_ HT_.out 13 48 ?_
           refine tW_ HT_.out HW_.out 14 49 hHeld ?_
           refine pT_ HT_.out 15 50 ?_
           refine pT_ HT_.out 16 51 ?_
           refine pT_ HT_.out 17 52 ?_
           refine oT_ 18 53 HT_.out (fun K hK => ?_)
           refine goes_ Try.func84 (by kernel_rfl) rfl #[.string a0_0, .int .i64 (wrap64 ((wrap64 ((wrap64 (16 + (wrap64 (2 * (wrap64 ((wrap64 (3 * (l0_1.length : Int))) + a1)))))) + (rd l0_4 a1))) + (wrap64 (2 * (wrap64 (x8_1 - (rd l0_2 a1))))))), .int .i64 1] (by rfl) rfl rfl aA ?_
           with_reducible refine (segment_words.calls a0_0 (wrap64 ((wrap64 ((wrap64 (16 + (wrap64 (2 * (wrap64 ((wrap64 (3 * (l0_1.length : Int))) + a1)))))) + (rd l0_4 a1))) + (wrap64 (2 * (wrap64 (x8_1 - (rd l0_2 a1))))))) 1 t208 t209 _ A12.out).mono ?_
           rintro e w37 ⟨v210, rfl, ho0, hb⟩
           refine ⟨_, rfl, ?_⟩
           have n0_ := Aside0.mk (Kd.R_below (rA HO_6.out) hb)
           have n1_ := Aside0.mk (Kd.R_lower ho0 (below_size (by repeat (first | (with_reducible first | exact HB.out | apply below_alloc | apply pw_below_drewN | apply below_drew1 | refine below_set ?_ GE203.out) | exact HB.out))))
           have n2_ := Aside0.mk (blk_below (g := gb203) (o := .cells #[.string a0_0, .slice (some ad205) l0_1.length c0_1, .slice (some ad204) l0_2.length c0_2, .slice A0_3 l0_3.length c0_3, .slice (some ad206) l0_4.length c0_4] 100 (0, 0)) (by (with_reducible repeat (first | refine blk_drewN ?_ _ | refine blk_drew ?_ | refine blk_alloc ?_ _)); exact BK203.out) hb)
           have n3_ := Aside0.mk (below_step (by repeat (first | (with_reducible first | exact HB.out | apply below_alloc | apply pw_below_drewN | apply below_drew1 | refine below_set ?_ GE203.out) | exact HB.out)) hb)
           clear HO_6
           clear BK203
           clear HB
           have HO_6 := n0_
           have HO211 := n1_
           have BK203 := n2_
           have HB := n3_
           clear n0_ n1_ n2_ n3_
           (try clear hb ho0)
           refine hK.out _ _ ⟨(blk_cell BK203.out 0).trans rfl, (blk_cell BK203.out 1).trans rfl, (blk_cell BK203.out 2).trans rfl, (blk_cell BK203.out 3).trans rfl, (blk_cell BK203.out 4).trans rfl, ((HB.out.cell (World.block_lt_of_cell? w _ hw206_0)).trans hw206_0), ((HB.out.cell (World.block_lt_of_cell? w _ hw207_0)).trans hw207_0)⟩ (fun hHeld => ?_)
           clear hK K
           refine nS_ ?_
           refine pT_ HT_.out 19 34 ?_
           refine pT_ HT_.out 20 54 ?_
           refine pT_ HT_.out 21 55 ?_
           refine pT_ HT_.out 22 9 ?_
           refine pT_ HT_.out 23 10 ?_
           refine done_ (done_of HT_.out (by kernel_rfl)) ?_
           try go_wp2
           go_ret2
           exact ⟨_, eA, nA, by repeat (first | (with_reducible first | exact HB.out | apply below_alloc | apply pw_below_drewN | apply below_drew1 | refine below_set ?_ GE203.out) | exact HB.out)⟩
         ·
          rw [if_neg c11] at H
          exact absurd H (by simp)
        ·
         rw [if_neg c10] at H
         exact absurd H (by simp)
       ·
        rw [if_neg c9] at H
        have c9b0 : decide (x8_1 ≤ (rd l0_1 a1)) = false := decide_eq_false c9
        clear c9
        simp only [Option.some.injEq, Prod.mk.injEq] at H
        obtain ⟨rfl, rfl⟩ := H
        have hcz38_0 : wr.cell? ⟨gb203, 0, none⟩ = some (.string a0_0) := (blk_cell BK203.out 0).trans rfl
        have hcz38_1 : wr.cell? ⟨gb203, 1, none⟩ = some (.slice A0_1 l0_1.length c0_1) := (blk_cell BK203.out 1).trans rfl
        have hcz38_2 : wr.cell? ⟨gb203, 2, none⟩ = some (.slice (some ad204) l0_2.length c0_2) := (blk_cell BK203.out 2).trans rfl
        have hcz38_3 : wr.cell? ⟨gb203, 3, none⟩ = some (.slice A0_3 l0_3.length c0_3) := (blk_cell BK203.out 3).trans rfl
        have hcz38_4 : wr.cell? ⟨gb203, 4, none⟩ = some (.slice A0_4 l0_4.length c0_4) := (blk_cell BK203.out 4).trans rfl
        have hfz38_0 := blk_frozen BK203.out 0
        have hfz38_1 := blk_frozen BK203.out 1
        have hfz38_2 := blk_frozen BK203.out 2
        have hfz38_3 := blk_frozen BK203.out 3
        have hfz38_4 := blk_frozen BK203.out 4
        have p205 : 0 ≤ (a1 : Int) := of_decide_eq_true sA
        have q205 : a1 < (l0_1.length : Int) := of_decide_eq_true sA
        obtain ⟨ad205, e205, hx205_0⟩ := Kd.at_int HR0_1.out a1 p205 q205
        cases e205
        replace hx205_0 := (HB.out.cell (World.block_lt_of_cell? w _ hx205_0)).trans hx205_0
        replace p205 := eq_true p205
        replace q205 := eq_true q205
        go_wp2
        go_ret2
        exact ⟨_, eA, by (with_reducible repeat (first | apply Kd.R_alloc | apply Kd.R_drewN | apply Kd.R_drew)); exact HO_6.out, by repeat (first | (with_reducible first | exact HB.out | apply below_alloc | apply pw_below_drewN | apply below_drew1 | refine below_set ?_ GE203.out) | exact HB.out)⟩
      ·
       rw [if_neg c8] at H
       exact absurd H (by simp)
     ·
      rw [if_neg c7] at H
      exact absurd H (by simp)
  ·
   rw [if_neg c4] at H
   exact absurd H (by simp)
 ·
  rw [if_neg c3] at H
  exact absurd H (by simp)
end Go.Proofs.Ytejdflndgnpkcaa.P
