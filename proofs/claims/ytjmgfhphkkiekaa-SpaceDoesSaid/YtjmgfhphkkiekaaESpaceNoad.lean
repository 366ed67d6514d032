/- The laws of chapter 25 that take a noad: the document's class of a noad, and what the laws do with it. No condition. -/
import Derived.Test.YtjmgfhphkkiekaaESpaced
namespace Go.Proofs.Ytjmgfhphkkiekaa.P
open Go.RowKit Go.Proofs.YtjmgfhphkkiekaaW.PrintWords Go.Proofs.YtjmgfhphkkiekaaW.PrintLast Go.Proofs.YtjmgfhphkkiekaaW.PrintMore
attribute [local go_sem] max2_int min2_int max_two min_two max_three min_three max_four min_four

set_option maxHeartbeats 1000000 in
theorem refclass_walk (k c : Int) (v2 v3 v4 v5 v6 v7 v8 v9 v10 : Value) (w : World) :
    Calls Try.prog 20 #[.agg #[.int .i64 k, .int .i64 c, v2, v3, v4, v5, v6, v7, v8, v9, v10]] w fun e w' => e = .returned (.int .i64 (classN k c)) ∧ Below w.heap.size w w' := by
  have hB := Lib.hid ((Below.refl w.heap.size w).alloc (Nat.le_refl _) (.cells #[.int .i64 k, .int .i64 c, v2, v3, v4, v5, v6, v7, v8, v9, v10] 26))
  by_cases hk : 0 ≤ k ∧ k ≤ 9
  · have : k = 0 ∨ k = 1 ∨ k = 2 ∨ k = 3 ∨ k = 4 ∨ k = 5 ∨ k = 6 ∨ k = 7 ∨ k = 8 ∨ k = 9 := by omega
    clear hk
    rcases this with rfl | rfl | rfl | rfl | rfl | rfl | rfl | rfl | rfl | rfl
    all_goals
      go_enter Try.func20, Try.ntmps20
      go_wp2
      go_ret
      exact ⟨rfl, hB.out⟩
  · have HC := Lib.hid (show classN k c = -1 by unfold classN; rw [if_neg (by omega), if_neg (by omega), if_neg (by omega)])
    have k0 : (k == 0) = false := beq_no (by omega)
    have k1 : (k == 1) = false := beq_no (by omega)
    have k2 : (k == 2) = false := beq_no (by omega)
    have k3 : (k == 3) = false := beq_no (by omega)
    have k4 : (k == 4) = false := beq_no (by omega)
    have k5 : (k == 5) = false := beq_no (by omega)
    have k6 : (k == 6) = false := beq_no (by omega)
    have k7 : (k == 7) = false := beq_no (by omega)
    have k8 : (k == 8) = false := beq_no (by omega)
    have k9 : (k == 9) = false := beq_no (by omega)
    clear hk
    go_enter Try.func20, Try.ntmps20
    go_wp2
    go_ret
    refine ⟨?_, hB.out⟩
    rw [HC.out]; rfl
/-- What stays in a noad's box. -/
theorem box_keeps {k c : Value} {v2 v3 v4 v5 v6 v7 v8 v9 v10 : Value} {w W : World} {t : TypeId} (h : Below (w.alloc (.cells #[k, c, v2, v3, v4, v5, v6, v7, v8, v9, v10] t)).heap.size (w.alloc (.cells #[k, c, v2, v3, v4, v5, v6, v7, v8, v9, v10] t)) W) :
    W.heap[w.heap.size]? = some (.cells #[k, c, v2, v3, v4, v5, v6, v7, v8, v9, v10] t) := by
  rw [h.block _ (by simp)]
  exact (MapKept.heap_alloc w _).1
theorem class_at {k c n : Int} (h : classN k c = n) (v2 v3 v4 v5 v6 v7 v8 v9 v10 : Value) (w : World) :
    Calls Try.prog 19 #[.agg #[.int .i64 k, .int .i64 c, v2, v3, v4, v5, v6, v7, v8, v9, v10]] w fun e w' => e = .returned (.int .i64 n) ∧ Below w.heap.size w w' := by
  rw [← h]; exact class_walk k c v2 v3 v4 v5 v6 v7 v8 v9 v10 w
set_option maxHeartbeats 2000000 in
theorem groups_own (k c : Int) (hk : k = 0 ∨ k = 1) (v2 v3 v4 v5 v6 v7 v8 v9 v10 : Value) (w : World) :
    Calls Try.prog 7 #[.agg #[.int .i64 k, .int .i64 c, v2, v3, v4, v5, v6, v7, v8, v9, v10]] w fun e w' => e = .returned (.bool true) ∧ Below w.heap.size w w' := by
  have hB := Lib.hid ((Below.refl w.heap.size w).alloc (Nat.le_refl _) (.cells #[.int .i64 k, .int .i64 c, v2, v3, v4, v5, v6, v7, v8, v9, v10] 26))
  rcases hk with rfl | rfl
  all_goals
    go_enter Try.func7, Try.ntmps7
    go_wp2_with fail
    refine (class_at (n := c) rfl v2 v3 v4 v5 v6 v7 v8 v9 v10 _).mono ?_
    rintro e w1 ⟨rfl, hb⟩
    have hg := box_keeps hb
    have c0 := cell_of_row w1 w.heap.size 0 _ _ _ hg
    have H1 := Lib.hid hb
    have HG := Lib.hid hg
    clear hb hg
    go_wp2_with fail
    refine (vinculumlaw25_spaced.calls true _ rfl).mono ?_
    rintro e w2 ⟨rfl, hb⟩
    have hw := below_then hB.out hB.out.size H1.out
    have HB2 := Lib.hid (below_then hw hw.size hb)
    clear hw
    have c1 := cell_of_row w2 w.heap.size 1 _ _ _ ((hb.block w.heap.size (by have := H1.out.size; simp at this; omega)).trans HG.out)
    clear hB H1 HG hb c0
    go_wp2
    go_ret
    exact ⟨rfl, HB2.out⟩
set_option maxHeartbeats 2000000 in
theorem groups_none (k c : Int) (hk : k = 10 ∨ k = 11) (v2 v3 v4 v5 v6 v7 v8 v9 v10 : Value) (w : World) :
    Calls Try.prog 7 #[.agg #[.int .i64 k, .int .i64 c, v2, v3, v4, v5, v6, v7, v8, v9, v10]] w fun e w' => e = .returned (.bool true) ∧ Below w.heap.size w w' := by
  have hB := Lib.hid ((Below.refl w.heap.size w).alloc (Nat.le_refl _) (.cells #[.int .i64 k, .int .i64 c, v2, v3, v4, v5, v6, v7, v8, v9, v10] 26))
  rcases hk with rfl | rfl
  all_goals
    go_enter Try.func7, Try.ntmps7
    go_wp2_with fail
    refine (class_at (n := -1) rfl v2 v3 v4 v5 v6 v7 v8 v9 v10 _).mono ?_
    rintro e w1 ⟨rfl, hb⟩
    have hg := box_keeps hb
    have c0 := cell_of_row w1 w.heap.size 0 _ _ _ hg
    have H1 := Lib.hid hb
    clear hb hg
    go_wp2_with fail
    refine (vinculumlaw25_spaced.calls true _ rfl).mono ?_
    rintro e w2 ⟨rfl, hb⟩
    have hw := below_then hB.out hB.out.size H1.out
    have HB2 := Lib.hid (below_then hw hw.size hb)
    clear hw
    clear hB H1 hb c0
    go_wp2
    go_ret
    exact ⟨rfl, HB2.out⟩
/-- A noad's box, cell by cell. -/
theorem box_cells {k c v2 v3 v4 v5 v6 v7 v8 v9 v10 : Value} {W : World} {g : Nat} {t : TypeId} (hg : W.heap[g]? = some (.cells #[k, c, v2, v3, v4, v5, v6, v7, v8, v9, v10] t)) :
    W.cell? ⟨g, 0, none⟩ = some k ∧ W.cell? ⟨g, 1, none⟩ = some c ∧ W.cell? ⟨g, 2, none⟩ = some v2 ∧ W.cell? ⟨g, 3, none⟩ = some v3 ∧ W.cell? ⟨g, 4, none⟩ = some v4 ∧ W.cell? ⟨g, 5, none⟩ = some v5 ∧ W.cell? ⟨g, 6, none⟩ = some v6 ∧ W.cell? ⟨g, 7, none⟩ = some v7 ∧ W.cell? ⟨g, 8, none⟩ = some v8 ∧ W.cell? ⟨g, 9, none⟩ = some v9 ∧ W.cell? ⟨g, 10, none⟩ = some v10 :=
  ⟨cell_of_row W g 0 _ _ _ hg, cell_of_row W g 1 _ _ _ hg, cell_of_row W g 2 _ _ _ hg, cell_of_row W g 3 _ _ _ hg, cell_of_row W g 4 _ _ _ hg, cell_of_row W g 5 _ _ _ hg, cell_of_row W g 6 _ _ _ hg, cell_of_row W g 7 _ _ _ hg, cell_of_row W g 8 _ _ _ hg, cell_of_row W g 9 _ _ _ hg, cell_of_row W g 10 _ _ _ hg⟩
set_option maxHeartbeats 2000000 in
theorem groups_seven (k c : Int) (hk : k = 2 ∨ k = 7 ∨ k = 8) (x2 x3 x4 : Int) (A5 A6 A9 A10 : Option Addr) (l5 c5 l6 c6 l9 c9 l10 c10 : Nat) (b7 b8 : Bool) (w : World) :
    Calls Try.prog 7 #[.agg #[.int .i64 k, .int .i64 c, .int .i64 x2, .int .i64 x3, .int .i64 x4, .slice A5 l5 c5, .slice A6 l6 c6, .bool b7, .bool b8, .slice A9 l9 c9, .slice A10 l10 c10]] w fun e w' => e = .returned (.bool true) ∧ Below w.heap.size w w' := by
  have hB := Lib.hid ((Below.refl w.heap.size w).alloc (Nat.le_refl _) (.cells #[.int .i64 k, .int .i64 c, .int .i64 x2, .int .i64 x3, .int .i64 x4, .slice A5 l5 c5, .slice A6 l6 c6, .bool b7, .bool b8, .slice A9 l9 c9, .slice A10 l10 c10] 26))
  have hz := (zero_of_info (P := Try.prog) (t := 26) (v := .agg #[.int .i64 0, .int .i64 0, .int .i64 0, .int .i64 0, .int .i64 0, .slice none 0 0, .slice none 0 0, .bool false, .bool false, .slice none 0 0, .slice none 0 0]) (n := 11) (by kernel_rfl)).1
  rcases hk with rfl | rfl | rfl
  all_goals
    go_enter Try.func7, Try.ntmps7
    go_wp2_with fail
    refine (class_at (n := 7) rfl (.int .i64 x2) (.int .i64 x3) (.int .i64 x4) (.slice A5 l5 c5) (.slice A6 l6 c6) (.bool b7) (.bool b8) (.slice A9 l9 c9) (.slice A10 l10 c10) _).mono ?_
    rintro e w1 ⟨rfl, hb⟩
    have hg := box_keeps hb
    obtain ⟨f0, f1, f2, f3, f4, f5, f6, f7, f8, f9, f10⟩ := box_cells hg
    have H1 := Lib.hid hb
    have HG := Lib.hid hg
    clear hb hg
    go_wp2_with fail
    have hw1 := below_then hB.out hB.out.size H1.out
    have HW1 := Lib.hid hw1
    have HS1 := Lib.hid (show w.heap.size < w1.heap.size by have := H1.out.size; simp at this; omega)
    clear hB H1 f0 f1 f2 f3 f4 f5 f6 f7 f8 f9 f10 hz hw1
    refine (vinculumlaw25_spaced.calls true _ rfl).mono ?_
    rintro e w2 ⟨rfl, hb⟩
    obtain ⟨f0, f1, f2, f3, f4, f5, f6, f7, f8, f9, f10⟩ := box_cells (box_keeps hb)
    have HG2 := Lib.hid ((hb.block w.heap.size (by have := HS1.out; simp; omega)).trans ((((Below.refl w1.heap.size w1).alloc (Nat.le_refl _) _).block _ HS1.out).trans HG.out))
    have HW2 := Lib.hid (below_then (HW1.out.alloc HW1.out.size _) (HW1.out.alloc HW1.out.size _).size hb)
    have HS2 := Lib.hid (show w.heap.size < w2.heap.size by have := HS1.out; have := hb.size; simp at this; omega)
    clear hb HW1 HS1 HG
    go_wp2_with fail
    refine (class_at (n := 7) rfl (.int .i64 x2) (.int .i64 x3) (.int .i64 x4) (.slice A5 l5 c5) (.slice A6 l6 c6) (.bool true) (.bool b8) (.slice A9 l9 c9) (.slice A10 l10 c10) _).mono ?_
    rintro e w3 ⟨rfl, hb⟩
    have hg := (hb.block w.heap.size HS2.out).trans HG2.out
    have e0 := cell_of_row w3 w.heap.size 0 _ _ _ hg
    have HW3 := Lib.hid (below_then HW2.out HW2.out.size hb)
    clear HW2 HS2 HG2 hb hg f0 f1 f2 f3 f4 f5 f6 f7 f8 f9 f10
    go_wp2
    go_ret
    exact ⟨rfl, HW3.out⟩
set_option maxHeartbeats 2000000 in
theorem groups_zero (k c : Int) (hk : k = 3 ∨ k = 4 ∨ k = 5 ∨ k = 6 ∨ k = 9) (x2 x3 x4 : Int) (A5 A6 A9 A10 : Option Addr) (l5 c5 l6 c6 l9 c9 l10 c10 : Nat) (b7 b8 : Bool) (w : World) :
    Calls Try.prog 7 #[.agg #[.int .i64 k, .int .i64 c, .int .i64 x2, .int .i64 x3, .int .i64 x4, .slice A5 l5 c5, .slice A6 l6 c6, .bool b7, .bool b8, .slice A9 l9 c9, .slice A10 l10 c10]] w fun e w' => e = .returned (.bool true) ∧ Below w.heap.size w w' := by
  have hB := Lib.hid ((Below.refl w.heap.size w).alloc (Nat.le_refl _) (.cells #[.int .i64 k, .int .i64 c, .int .i64 x2, .int .i64 x3, .int .i64 x4, .slice A5 l5 c5, .slice A6 l6 c6, .bool b7, .bool b8, .slice A9 l9 c9, .slice A10 l10 c10] 26))
  have hz := (zero_of_info (P := Try.prog) (t := 26) (v := .agg #[.int .i64 0, .int .i64 0, .int .i64 0, .int .i64 0, .int .i64 0, .slice none 0 0, .slice none 0 0, .bool false, .bool false, .slice none 0 0, .slice none 0 0]) (n := 11) (by kernel_rfl)).1
  rcases hk with rfl | rfl | rfl | rfl | rfl
  all_goals
    go_enter Try.func7, Try.ntmps7
    go_wp2_with fail
    refine (class_at (n := 0) rfl (.int .i64 x2) (.int .i64 x3) (.int .i64 x4) (.slice A5 l5 c5) (.slice A6 l6 c6) (.bool b7) (.bool b8) (.slice A9 l9 c9) (.slice A10 l10 c10) _).mono ?_
    rintro e w1 ⟨rfl, hb⟩
    have hg := box_keeps hb
    obtain ⟨f0, f1, f2, f3, f4, f5, f6, f7, f8, f9, f10⟩ := box_cells hg
    have H1 := Lib.hid hb
    have HG := Lib.hid hg
    clear hb hg
    go_wp2_with fail
    have hw1 := below_then hB.out hB.out.size H1.out
    have HW1 := Lib.hid hw1
    have HS1 := Lib.hid (show w.heap.size < w1.heap.size by have := H1.out.size; simp at this; omega)
    clear hB H1 f0 f1 f2 f3 f4 f5 f6 f7 f8 f9 f10 hz hw1
    refine (vinculumlaw25_spaced.calls true _ rfl).mono ?_
    rintro e w2 ⟨rfl, hb⟩
    obtain ⟨f0, f1, f2, f3, f4, f5, f6, f7, f8, f9, f10⟩ := box_cells (box_keeps hb)
    have HG2 := Lib.hid ((hb.block w.heap.size (by have := HS1.out; simp; omega)).trans ((((Below.refl w1.heap.size w1).alloc (Nat.le_refl _) _).block _ HS1.out).trans HG.out))
    have HW2 := Lib.hid (below_then (HW1.out.alloc HW1.out.size _) (HW1.out.alloc HW1.out.size _).size hb)
    have HS2 := Lib.hid (show w.heap.size < w2.heap.size by have := HS1.out; have := hb.size; simp at this; omega)
    clear hb HW1 HS1 HG
    go_wp2_with fail
    refine (class_at (n := 0) rfl (.int .i64 x2) (.int .i64 x3) (.int .i64 x4) (.slice A5 l5 c5) (.slice A6 l6 c6) (.bool true) (.bool b8) (.slice A9 l9 c9) (.slice A10 l10 c10) _).mono ?_
    rintro e w3 ⟨rfl, hb⟩
    have hg := (hb.block w.heap.size HS2.out).trans HG2.out
    have e0 := cell_of_row w3 w.heap.size 0 _ _ _ hg
    have HW3 := Lib.hid (below_then HW2.out HW2.out.size hb)
    clear HW2 HS2 HG2 hb hg f0 f1 f2 f3 f4 f5 f6 f7 f8 f9 f10
    go_wp2
    go_ret
    exact ⟨rfl, HW3.out⟩
set_option maxHeartbeats 2000000 in
theorem groups_low (k c : Int) (hk : k < 0) (x2 x3 x4 : Int) (A5 A6 A9 A10 : Option Addr) (l5 c5 l6 c6 l9 c9 l10 c10 : Nat) (b7 b8 : Bool) (w : World) :
    Calls Try.prog 7 #[.agg #[.int .i64 k, .int .i64 c, .int .i64 x2, .int .i64 x3, .int .i64 x4, .slice A5 l5 c5, .slice A6 l6 c6, .bool b7, .bool b8, .slice A9 l9 c9, .slice A10 l10 c10]] w fun e w' => e = .returned (.bool true) ∧ Below w.heap.size w w' := by
  have hB := Lib.hid ((Below.refl w.heap.size w).alloc (Nat.le_refl _) (.cells #[.int .i64 k, .int .i64 c, .int .i64 x2, .int .i64 x3, .int .i64 x4, .slice A5 l5 c5, .slice A6 l6 c6, .bool b7, .bool b8, .slice A9 l9 c9, .slice A10 l10 c10] 26))
  have hz := (zero_of_info (P := Try.prog) (t := 26) (v := .agg #[.int .i64 0, .int .i64 0, .int .i64 0, .int .i64 0, .int .i64 0, .slice none 0 0, .slice none 0 0, .bool false, .bool false, .slice none 0 0, .slice none 0 0]) (n := 11) (by kernel_rfl)).1
  have HC := Lib.hid (show ∀ c, classN k c = -1 from fun c => by unfold classN; rw [if_neg (by omega), if_neg (by omega), if_neg (by omega)])
  have k0 : (k == 0) = false := beq_no (by omega)
  have k1 : (k == 1) = false := beq_no (by omega)
  have k10 : (k == 10) = false := beq_no (by omega)
  have k11 : (k == 11) = false := beq_no (by omega)
  have k2 : decide (2 ≤ k) = false := decide_eq_false (by omega)
  clear hk
  go_enter Try.func7, Try.ntmps7
  go_wp2_with fail
  refine (class_at (n := -1) (HC.out _) (.int .i64 x2) (.int .i64 x3) (.int .i64 x4) (.slice A5 l5 c5) (.slice A6 l6 c6) (.bool b7) (.bool b8) (.slice A9 l9 c9) (.slice A10 l10 c10) _).mono ?_
  rintro e w1 ⟨rfl, hb⟩
  have hg := box_keeps hb
  obtain ⟨f0, f1, f2, f3, f4, f5, f6, f7, f8, f9, f10⟩ := box_cells hg
  have H1 := Lib.hid hb
  have HG := Lib.hid hg
  clear hb hg
  go_wp2_with fail
  have hw1 := below_then hB.out hB.out.size H1.out
  have HW1 := Lib.hid hw1
  have HS1 := Lib.hid (show w.heap.size < w1.heap.size by have := H1.out.size; simp at this; omega)
  clear hB H1 f0 f1 f2 f3 f4 f5 f6 f7 f8 f9 f10 hz hw1
  refine (vinculumlaw25_spaced.calls true _ rfl).mono ?_
  rintro e w2 ⟨rfl, hb⟩
  obtain ⟨f0, f1, f2, f3, f4, f5, f6, f7, f8, f9, f10⟩ := box_cells (box_keeps hb)
  have HG2 := Lib.hid ((hb.block w.heap.size (by have := HS1.out; simp; omega)).trans ((((Below.refl w1.heap.size w1).alloc (Nat.le_refl _) _).block _ HS1.out).trans HG.out))
  have HW2 := Lib.hid (below_then (HW1.out.alloc HW1.out.size _) (HW1.out.alloc HW1.out.size _).size hb)
  have HS2 := Lib.hid (show w.heap.size < w2.heap.size by have := HS1.out; have := hb.size; simp at this; omega)
  clear hb HW1 HS1 HG
  go_wp2_with fail
  refine (class_at (n := -1) (HC.out _) (.int .i64 x2) (.int .i64 x3) (.int .i64 x4) (.slice A5 l5 c5) (.slice A6 l6 c6) (.bool true) (.bool b8) (.slice A9 l9 c9) (.slice A10 l10 c10) _).mono ?_
  rintro e w3 ⟨rfl, hb⟩
  have hg := (hb.block w.heap.size HS2.out).trans HG2.out
  have e0 := cell_of_row w3 w.heap.size 0 _ _ _ hg
  have HW3 := Lib.hid (below_then HW2.out HW2.out.size hb)
  clear HW2 HS2 HG2 hb hg f0 f1 f2 f3 f4 f5 f6 f7 f8 f9 f10
  go_wp2
  go_ret
  exact ⟨rfl, HW3.out⟩
set_option maxHeartbeats 2000000 in
theorem groups_high (k c : Int) (hk : 11 < k) (x2 x3 x4 : Int) (A5 A6 A9 A10 : Option Addr) (l5 c5 l6 c6 l9 c9 l10 c10 : Nat) (b7 b8 : Bool) (w : World) :
    Calls Try.prog 7 #[.agg #[.int .i64 k, .int .i64 c, .int .i64 x2, .int .i64 x3, .int .i64 x4, .slice A5 l5 c5, .slice A6 l6 c6, .bool b7, .bool b8, .slice A9 l9 c9, .slice A10 l10 c10]] w fun e w' => e = .returned (.bool true) ∧ Below w.heap.size w w' := by
  have hB := Lib.hid ((Below.refl w.heap.size w).alloc (Nat.le_refl _) (.cells #[.int .i64 k, .int .i64 c, .int .i64 x2, .int .i64 x3, .int .i64 x4, .slice A5 l5 c5, .slice A6 l6 c6, .bool b7, .bool b8, .slice A9 l9 c9, .slice A10 l10 c10] 26))
  have hz := (zero_of_info (P := Try.prog) (t := 26) (v := .agg #[.int .i64 0, .int .i64 0, .int .i64 0, .int .i64 0, .int .i64 0, .slice none 0 0, .slice none 0 0, .bool false, .bool false, .slice none 0 0, .slice none 0 0]) (n := 11) (by kernel_rfl)).1
  have HC := Lib.hid (show ∀ c, classN k c = -1 from fun c => by unfold classN; rw [if_neg (by omega), if_neg (by omega), if_neg (by omega)])
  have k0 : (k == 0) = false := beq_no (by omega)
  have k1 : (k == 1) = false := beq_no (by omega)
  have k10 : (k == 10) = false := beq_no (by omega)
  have k11 : (k == 11) = false := beq_no (by omega)
  have k2 : decide (2 ≤ k) = true := decide_eq_true (by omega)
  have k9 : decide (k ≤ 9) = false := decide_eq_false (by omega)
  clear hk
  go_enter Try.func7, Try.ntmps7
  go_wp2_with fail
  refine (class_at (n := -1) (HC.out _) (.int .i64 x2) (.int .i64 x3) (.int .i64 x4) (.slice A5 l5 c5) (.slice A6 l6 c6) (.bool b7) (.bool b8) (.slice A9 l9 c9) (.slice A10 l10 c10) _).mono ?_
  rintro e w1 ⟨rfl, hb⟩
  have hg := box_keeps hb
  obtain ⟨f0, f1, f2, f3, f4, f5, f6, f7, f8, f9, f10⟩ := box_cells hg
  have H1 := Lib.hid hb
  have HG := Lib.hid hg
  clear hb hg
  go_wp2_with fail
  have hw1 := below_then hB.out hB.out.size H1.out
  have HW1 := Lib.hid hw1
  have HS1 := Lib.hid (show w.heap.size < w1.heap.size by have := H1.out.size; simp at this; omega)
  clear hB H1 f0 f1 f2 f3 f4 f5 f6 f7 f8 f9 f10 hz hw1
  refine (vinculumlaw25_spaced.calls true _ rfl).mono ?_
  rintro e w2 ⟨rfl, hb⟩
  obtain ⟨f0, f1, f2, f3, f4, f5, f6, f7, f8, f9, f10⟩ := box_cells (box_keeps hb)
  have HG2 := Lib.hid ((hb.block w.heap.size (by have := HS1.out; simp; omega)).trans ((((Below.refl w1.heap.size w1).alloc (Nat.le_refl _) _).block _ HS1.out).trans HG.out))
  have HW2 := Lib.hid (below_then (HW1.out.alloc HW1.out.size _) (HW1.out.alloc HW1.out.size _).size hb)
  have HS2 := Lib.hid (show w.heap.size < w2.heap.size by have := HS1.out; have := hb.size; simp at this; omega)
  clear hb HW1 HS1 HG
  go_wp2_with fail
  refine (class_at (n := -1) (HC.out _) (.int .i64 x2) (.int .i64 x3) (.int .i64 x4) (.slice A5 l5 c5) (.slice A6 l6 c6) (.bool true) (.bool b8) (.slice A9 l9 c9) (.slice A10 l10 c10) _).mono ?_
  rintro e w3 ⟨rfl, hb⟩
  have hg := (hb.block w.heap.size HS2.out).trans HG2.out
  have e0 := cell_of_row w3 w.heap.size 0 _ _ _ hg
  have HW3 := Lib.hid (below_then HW2.out HW2.out.size hb)
  clear HW2 HS2 HG2 hb hg f0 f1 f2 f3 f4 f5 f6 f7 f8 f9 f10
  go_wp2
  go_ret
  exact ⟨rfl, HW3.out⟩
/-- SpaceGroups returns true at whatever noad. -/
theorem groups_walk (k c : Int) (x2 x3 x4 : Int) (A5 A6 A9 A10 : Option Addr) (l5 c5 l6 c6 l9 c9 l10 c10 : Nat) (b7 b8 : Bool) (w : World) :
    Calls Try.prog 7 #[.agg #[.int .i64 k, .int .i64 c, .int .i64 x2, .int .i64 x3, .int .i64 x4, .slice A5 l5 c5, .slice A6 l6 c6, .bool b7, .bool b8, .slice A9 l9 c9, .slice A10 l10 c10]] w fun e w' => e = .returned (.bool true) ∧ Below w.heap.size w w' := by
  by_cases h0 : k = 0 ∨ k = 1
  · exact groups_own k c h0 _ _ _ _ _ _ _ _ _ w
  by_cases h1 : k = 10 ∨ k = 11
  · exact groups_none k c h1 _ _ _ _ _ _ _ _ _ w
  by_cases h2 : k = 2 ∨ k = 7 ∨ k = 8
  · exact groups_seven k c h2 x2 x3 x4 A5 A6 A9 A10 l5 c5 l6 c6 l9 c9 l10 c10 b7 b8 w
  by_cases h3 : k = 3 ∨ k = 4 ∨ k = 5 ∨ k = 6 ∨ k = 9
  · exact groups_zero k c h3 x2 x3 x4 A5 A6 A9 A10 l5 c5 l6 c6 l9 c9 l10 c10 b7 b8 w
  by_cases h4 : k < 0
  · exact groups_low k c h4 x2 x3 x4 A5 A6 A9 A10 l5 c5 l6 c6 l9 c9 l10 c10 b7 b8 w
  · exact groups_high k c (by omega) x2 x3 x4 A5 A6 A9 A10 l5 c5 l6 c6 l9 c9 l10 c10 b7 b8 w
end Go.Proofs.Ytjmgfhphkkiekaa.P
