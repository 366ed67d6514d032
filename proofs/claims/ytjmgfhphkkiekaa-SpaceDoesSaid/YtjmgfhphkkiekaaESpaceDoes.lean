/- SpaceDoes' walk: what it calls, out of contracts; what they answer stands as plain facts. No condition. -/
import Derived.Test.YtjmgfhphkkiekaaESpaceNoad
import Derived.Test.YtjmgfhphkkiekaaPFSpaceMu
import Derived.Test.YtjmgfhphkkiekaaPRRef25
import Derived.Deep.RegionHeld3
namespace Go.Proofs.Ytjmgfhphkkiekaa.P
open Go.RowKit Go.Proofs.YtjmgfhphkkiekaaW.PrintWords Go.Proofs.YtjmgfhphkkiekaaW.PrintLast Go.Proofs.YtjmgfhphkkiekaaW.PrintMore
attribute [local go_sem] max2_int min2_int max_two min_two max_three min_three max_four min_four

theorem refclass_at {k c n : Int} (h : classN k c = n) (v2 v3 v4 v5 v6 v7 v8 v9 v10 : Value) (w : World) :
    Calls Try.prog 20 #[.agg #[.int .i64 k, .int .i64 c, v2, v3, v4, v5, v6, v7, v8, v9, v10]] w fun e w' => e = .returned (.int .i64 n) ∧ Below w.heap.size w w' := by
  rw [← h]; exact refclass_walk k c v2 v3 v4 v5 v6 v7 v8 v9 v10 w
/-- What stays while the law calls: the rows, the noad's box, all that was. -/
structure DoesKeep (w : World) (A0 A1 A2 : Option Addr) (l0 m : List Int) (k c v2 v3 v4 v5 v6 v7 v8 v9 v10 : Value) (W : World) : Prop where
  r : Kd.C (Kd.int .i64) W A0 l0.length l0
  o : Kd.C (Kd.int .i64) W A1 l0.length l0
  m : Kd.C (Kd.int .i64) W A2 m.length m
  g : W.heap[w.heap.size]? = some (.cells #[k, c, v2, v3, v4, v5, v6, v7, v8, v9, v10] 26)
  s : w.heap.size < W.heap.size
  b : Below w.heap.size w W
theorem DoesKeep.step {w : World} {A0 A1 A2 : Option Addr} {l0 m : List Int} {k c v2 v3 v4 v5 v6 v7 v8 v9 v10 : Value} {W W' : World} (h : DoesKeep w A0 A1 A2 l0 m k c v2 v3 v4 v5 v6 v7 v8 v9 v10 W) (hb : Below W.heap.size W W') : DoesKeep w A0 A1 A2 l0 m k c v2 v3 v4 v5 v6 v7 v8 v9 v10 W' :=
  ⟨Kd.C_below h.r hb, Kd.C_below h.o hb, Kd.C_below h.m hb, (hb.block _ h.s).trans h.g, Nat.lt_of_lt_of_le h.s hb.size, below_then h.b h.b.size hb⟩
theorem DoesKeep.all {w : World} {A0 A1 A2 : Option Addr} {l0 m : List Int} {k c v2 v3 v4 v5 v6 v7 v8 v9 v10 : Value} {W : World} (h : DoesKeep w A0 A1 A2 l0 m k c v2 v3 v4 v5 v6 v7 v8 v9 v10 W) :
    DoesKeep w A0 A1 A2 l0 m k c v2 v3 v4 v5 v6 v7 v8 v9 v10 W ∧ W.cell? ⟨w.heap.size, 0, none⟩ = some (k) ∧ W.cell? ⟨w.heap.size, 1, none⟩ = some (c) ∧ W.cell? ⟨w.heap.size, 2, none⟩ = some (v2) ∧ W.cell? ⟨w.heap.size, 3, none⟩ = some (v3) ∧ W.cell? ⟨w.heap.size, 4, none⟩ = some (v4) ∧ W.cell? ⟨w.heap.size, 5, none⟩ = some (v5) ∧ W.cell? ⟨w.heap.size, 6, none⟩ = some (v6) ∧ W.cell? ⟨w.heap.size, 7, none⟩ = some (v7) ∧ W.cell? ⟨w.heap.size, 8, none⟩ = some (v8) ∧ W.cell? ⟨w.heap.size, 9, none⟩ = some (v9) ∧ W.cell? ⟨w.heap.size, 10, none⟩ = some (v10) :=
  ⟨h, box_cells h.g⟩
theorem below_drawn {W W' : World} (h : Drawn0 W W') : Below W.heap.size W W' := by obtain ⟨x, rfl⟩ := h; exact pw_below_drewN (Below.refl _ _) x
set_option maxHeartbeats 2000000 in
theorem does_walk (A0 : Option Addr) (c0 : Nat) (l0 : List Int) (a b c n s : Int) (k kc : Int) (v2 v3 v4 v5 v6 v7 v8 v9 v10 : Value) (w : World) (hr0 : Kd.C (Kd.int .i64) w A0 l0.length l0) (hc0 : l0.length ≤ c0)
    (m : List Int) (v e p g d z : Int) (K : Nat) (hbig : ¬ (l0.length : Int) > 300)
    (h1 : vinculumref03_Own.f l0 = some l0) (h2 : space_Classes.f l0 = some m) (h3 : space_Mu.f n s = some (v, e)) (h4 : vinculumref25_Mu.f K n s = some (v, e))
    (h5 : space_Gap.f a b c s = some (p, g)) (h6 : vinculumref25_Gap.f K a b c s = some (p, g)) (h7 : vinculumref25_Classes.f K l0 = some m) (h8 : vinculumref03_Ints.f K m m = some true) (h9 : vinculumref03_Ints.f K l0 l0 = some true)
    (h10 : space_Between.f a b c = some d) (h11 : vinculumref25_Between.f K a b c = some d) (h12 : classN k kc = z) :
    Calls Try.prog 3 #[.slice A0 l0.length c0, .int .i64 a, .int .i64 b, .int .i64 c, .int .i64 n, .int .i64 s, .agg #[.int .i64 k, .int .i64 kc, v2, v3, v4, v5, v6, v7, v8, v9, v10]] w fun e w' => e = .returned (.bool true) ∧ Below w.heap.size w w' := by
  have H1 := Lib.hid h1
  have H2 := Lib.hid h2
  have H3 := Lib.hid h3
  have H4 := Lib.hid h4
  have H5 := Lib.hid h5
  have H6 := Lib.hid h6
  have H7 := Lib.hid h7
  have H8 := Lib.hid h8
  have H9 := Lib.hid h9
  have H10 := Lib.hid h10
  have H11 := Lib.hid h11
  have H12 := Lib.hid h12
  have HR := Lib.hid (Kd.C_alloc hr0 (.cells #[.int .i64 k, .int .i64 kc, v2, v3, v4, v5, v6, v7, v8, v9, v10] 26))
  have HC := Lib.hid hc0
  have big1 : decide (300 < (l0.length : Int)) = false := decide_eq_false hbig
  have big2 : decide (300 < l0.length) = false := decide_eq_false (by omega)
  have hB := Lib.hid ((Below.refl w.heap.size w).alloc (Nat.le_refl _) (.cells #[.int .i64 k, .int .i64 kc, v2, v3, v4, v5, v6, v7, v8, v9, v10] 26))
  clear h1 h2 h3 h4 h5 h6 h7 h8 h9 h10 h11 h12 hr0 hc0 hbig
  go_enter Try.func3, Try.ntmps3
  go_wp2_with fail
  refine (vinculumref03_Own.calls _ _ l0 l0 _ HR.out HC.out H1.out).mono ?_
  rintro e' w1 ⟨o1, rfl, ho1, hb⟩
  have hg := box_keeps hb
  have hw1 := below_then hB.out hB.out.size hb
  obtain ⟨A1, c1, rfl⟩ := own_slice (Kd.own_of_R ho1)
  obtain ⟨_, hnc1, hC1⟩ := Kd.R_reads' ho1
  have HR1 := Lib.hid (Kd.C_below HR.out hb)
  have HO1 := Lib.hid hC1
  have HN1 := Lib.hid hnc1
  have HG1 := Lib.hid hg
  have HW1 := Lib.hid hw1
  have HS1 := Lib.hid (show w.heap.size < w1.heap.size by have := hb.size; simp at this; omega)
  clear hB HR hg hw1 ho1 hnc1 hC1 hb H1
  go_wp2_with fail
  refine (space_Classes.calls _ _ l0 m _ HR1.out HC.out H2.out).mono ?_
  rintro e' w2 ⟨o2, rfl, ho2, hb⟩
  obtain ⟨A2, c2, rfl⟩ := own_slice (Kd.own_of_R ho2)
  obtain ⟨_, hnc2, hC2⟩ := Kd.R_reads' ho2
  have HR2 := Lib.hid (Kd.C_below HR1.out hb)
  have HO2 := Lib.hid (Kd.C_below HO1.out hb)
  have HM2 := Lib.hid hC2
  have HN2 := Lib.hid hnc2
  have HG2 := Lib.hid ((hb.block w.heap.size HS1.out).trans HG1.out)
  have HS2 := Lib.hid (Nat.lt_of_lt_of_le HS1.out hb.size)
  have HW2 := Lib.hid (below_then HW1.out HW1.out.size hb)
  clear HR1 HO1 HG1 HW1 HS1 ho2 hnc2 hC2 hb H2
  go_wp2_with fail
  refine (space_Mu.calls _ _ v e _ H3.out).mono ?_
  rintro e' w3 ⟨rfl, hb⟩
  have HR3 := Lib.hid (Kd.C_below HR2.out hb)
  have HO3 := Lib.hid (Kd.C_below HO2.out hb)
  have HM3 := Lib.hid (Kd.C_below HM2.out hb)
  have HG3 := Lib.hid ((hb.block w.heap.size HS2.out).trans HG2.out)
  have HS3 := Lib.hid (Nat.lt_of_lt_of_le HS2.out hb.size)
  have HW3 := Lib.hid (below_then HW2.out HW2.out.size hb)
  clear HR2 HO2 HM2 HG2 HS2 HW2 hb H3
  go_wp2_with fail
  refine (vinculumref25_Mu.calls K _ _ v e _ H4.out).mono ?_
  rintro e' w4 ⟨rfl, hd⟩
  have hb : Below w3.heap.size w3 w4 := by obtain ⟨x, rfl⟩ := hd; exact pw_below_drewN (Below.refl _ _) x
  clear hd
  have HR4 := Lib.hid (Kd.C_below HR3.out hb)
  have HO4 := Lib.hid (Kd.C_below HO3.out hb)
  have HM4 := Lib.hid (Kd.C_below HM3.out hb)
  have HG4 := Lib.hid ((hb.block w.heap.size HS3.out).trans HG3.out)
  have HS4 := Lib.hid (Nat.lt_of_lt_of_le HS3.out hb.size)
  have HW4 := Lib.hid (below_then HW3.out HW3.out.size hb)
  clear HR3 HO3 HM3 HG3 HS3 HW3 hb H4
  go_wp2_with fail
  refine (space_Gap.calls _ _ _ _ p g _ H5.out).mono ?_
  rintro e' w5 ⟨rfl, hb⟩
  have HR5 := Lib.hid (Kd.C_below HR4.out hb)
  have HO5 := Lib.hid (Kd.C_below HO4.out hb)
  have HM5 := Lib.hid (Kd.C_below HM4.out hb)
  have HG5 := Lib.hid ((hb.block w.heap.size HS4.out).trans HG4.out)
  have HS5 := Lib.hid (Nat.lt_of_lt_of_le HS4.out hb.size)
  have HW5 := Lib.hid (below_then HW4.out HW4.out.size hb)
  clear HR4 HO4 HM4 HG4 HS4 HW4 hb H5
  go_wp2_with fail
  refine (vinculumref25_Gap.calls K _ _ _ _ p g _ H6.out).mono ?_
  rintro e' w6 ⟨rfl, hb⟩
  have HR6 := Lib.hid (Kd.C_below HR5.out hb)
  have HO6 := Lib.hid (Kd.C_below HO5.out hb)
  have HM6 := Lib.hid (Kd.C_below HM5.out hb)
  have HG6 := Lib.hid ((hb.block w.heap.size HS5.out).trans HG5.out)
  have HS6 := Lib.hid (Nat.lt_of_lt_of_le HS5.out hb.size)
  have HW6 := Lib.hid (below_then HW5.out HW5.out.size hb)
  clear HR5 HO5 HM5 HG5 HS5 HW5 hb H6
  go_wp2_with fail
  have HK := Lib.hid (DoesKeep.mk HR6.out HO6.out HM6.out HG6.out HS6.out HW6.out)
  clear HR6 HO6 HM6 HG6 HS6 HW6
  have HD := Lib.hid (HK.out.step (below_drew1 (Below.refl _ _)))
  clear HK
  go_region_held3 (fun u => DoesKeep w A0 A1 A2 l0 m (.int .i64 k) (.int .i64 kc) v2 v3 v4 v5 v6 v7 v8 v9 v10 u ∧ u.cell? ⟨w.heap.size, 0, none⟩ = some (.int .i64 k) ∧ u.cell? ⟨w.heap.size, 1, none⟩ = some (.int .i64 kc) ∧ u.cell? ⟨w.heap.size, 2, none⟩ = some (v2) ∧ u.cell? ⟨w.heap.size, 3, none⟩ = some (v3) ∧ u.cell? ⟨w.heap.size, 4, none⟩ = some (v4) ∧ u.cell? ⟨w.heap.size, 5, none⟩ = some (v5) ∧ u.cell? ⟨w.heap.size, 6, none⟩ = some (v6) ∧ u.cell? ⟨w.heap.size, 7, none⟩ = some (v7) ∧ u.cell? ⟨w.heap.size, 8, none⟩ = some (v8) ∧ u.cell? ⟨w.heap.size, 9, none⟩ = some (v9) ∧ u.cell? ⟨w.heap.size, 10, none⟩ = some (v10))
    (first | exact HD.out.all | exact ((DoesKeep.step (And.left (by assumption)) (by assumption)).all) | exact ((DoesKeep.step (by assumption) (by assumption)).all))
    (first
    | (go_at_call 14; refine (vinculumlaw25_spaced.calls true _ rfl).mono ?_; rintro e1 u1 ⟨rfl, hb⟩)
    | (go_at_call 16; refine (vinculumref25_Classes.calls K _ _ l0 m _ (DoesKeep.o (And.left (by assumption))) HN1.out H7.out).mono ?_; rintro e1 u1 ⟨o3, rfl, ho3, hb⟩; obtain ⟨A3, c3, rfl⟩ := own_slice (Kd.own_of_R ho3); obtain ⟨_, hnc3, hC3⟩ := Kd.R_reads' ho3; have HX := Lib.hid hC3; have HN3 := Lib.hid hnc3; clear ho3 hnc3 hC3)
    | (go_at_call 15; refine (vinculumref03_Ints.calls K _ _ m _ _ m true _ (DoesKeep.m (And.left (by assumption))) HN2.out HX.out HN3.out H8.out).mono ?_; rintro e1 u1 ⟨rfl, hd⟩; have hb := below_drawn hd; clear hd HX HN3)
    | (go_at_call 15; refine (vinculumref03_Ints.calls K _ _ l0 _ _ l0 true _ (DoesKeep.r (And.left (by assumption))) HC.out (DoesKeep.o (And.left (by assumption))) HN1.out H9.out).mono ?_; rintro e1 u1 ⟨rfl, hd⟩; have hb := below_drawn hd; clear hd)
    | (go_at_call 17; refine (space_Between.calls a b c d _ H10.out).mono ?_; rintro e1 u1 ⟨rfl, hb⟩)
    | (go_at_call 18; refine (vinculumref25_Between.calls K a b c d _ H11.out).mono ?_; rintro e1 u1 ⟨rfl, hb⟩)
    | (go_at_call 19; refine (class_at H12.out v2 v3 v4 v5 v6 v7 v8 v9 v10 _).mono ?_; rintro e1 u1 ⟨rfl, hb⟩)
    | (go_at_call 20; refine (refclass_at H12.out v2 v3 v4 v5 v6 v7 v8 v9 v10 _).mono ?_; rintro e1 u1 ⟨rfl, hb⟩))
  go_wp2
  go_ret
  exact ⟨rfl, DoesKeep.b (And.left (by assumption))⟩
theorem does_big (A0 : Option Addr) (c0 : Nat) (l0 : List Int) (a b c n s : Int) (k kc : Int) (v2 v3 v4 v5 v6 v7 v8 v9 v10 : Value) (w : World) (hbig : (l0.length : Int) > 300) :
    Calls Try.prog 3 #[.slice A0 l0.length c0, .int .i64 a, .int .i64 b, .int .i64 c, .int .i64 n, .int .i64 s, .agg #[.int .i64 k, .int .i64 kc, v2, v3, v4, v5, v6, v7, v8, v9, v10]] w fun e w' => e = .returned (.bool true) ∧ Below w.heap.size w w' := by
  have big1 : decide (300 < (l0.length : Int)) = true := decide_eq_true hbig
  have big2 : decide (300 < l0.length) = true := decide_eq_true (by omega)
  have hB := Lib.hid ((Below.refl w.heap.size w).alloc (Nat.le_refl _) (.cells #[.int .i64 k, .int .i64 kc, v2, v3, v4, v5, v6, v7, v8, v9, v10] 26))
  clear hbig
  go_enter Try.func3, Try.ntmps3
  go_wp2
  go_ret
  exact ⟨rfl, hB.out⟩
end Go.Proofs.Ytjmgfhphkkiekaa.P
