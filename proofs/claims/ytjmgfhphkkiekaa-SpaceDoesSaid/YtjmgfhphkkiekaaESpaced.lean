/- The contracts of space.Class at whatever noad, and of the document's rows of chapter 25, which hold. No condition. -/
import Derived.Test.YtjmgfhphkkiekaaP0
import Derived.Test.YtjmgfhphkkiekaaPFSpaceGap
import Derived.Test.YtjmgfhphkkiekaaPRRef03
import Derived.Test.YtjmgfhphkkiekaaEClasses
import Derived.Test.YtjmgfhphkkiekaaESpace
import Derived.WalkKit
import Derived.WalkLawsBesides
import Derived.Lib.Hide
namespace Go.Proofs.Ytjmgfhphkkiekaa.P
open Go.RowKit Go.Proofs.YtjmgfhphkkiekaaW.PrintWords Go.Proofs.YtjmgfhphkkiekaaW.PrintLast Go.Proofs.YtjmgfhphkkiekaaW.PrintMore
attribute [local go_sem] max2_int min2_int max_two min_two max_three min_three max_four min_four

/-- A noad's class, out of its kind and its own class. -/
def classN (k c : Int) : Int :=
  if k = 0 ∨ k = 1 then c else if k = 2 ∨ k = 7 ∨ k = 8 then 7 else if k = 3 ∨ k = 4 ∨ k = 5 ∨ k = 6 ∨ k = 9 then 0 else -1
set_option maxHeartbeats 1000000 in
theorem class_walk (k c : Int) (v2 v3 v4 v5 v6 v7 v8 v9 v10 : Value) (w : World) :
    Calls Try.prog 19 #[.agg #[.int .i64 k, .int .i64 c, v2, v3, v4, v5, v6, v7, v8, v9, v10]] w fun e w' => e = .returned (.int .i64 (classN k c)) ∧ Below w.heap.size w w' := by
  have hB := Lib.hid ((Below.refl w.heap.size w).alloc (Nat.le_refl _) (.cells #[.int .i64 k, .int .i64 c, v2, v3, v4, v5, v6, v7, v8, v9, v10] 26))
  by_cases hk : 0 ≤ k ∧ k ≤ 9
  · have : k = 0 ∨ k = 1 ∨ k = 2 ∨ k = 3 ∨ k = 4 ∨ k = 5 ∨ k = 6 ∨ k = 7 ∨ k = 8 ∨ k = 9 := by omega
    clear hk
    rcases this with rfl | rfl | rfl | rfl | rfl | rfl | rfl | rfl | rfl | rfl
    all_goals
      go_enter Try.func19, Try.ntmps19
      go_wp2
      go_ret
      exact ⟨rfl, hB.out⟩
  · have HC := Lib.hid (show classN k c = -1 by unfold classN; rw [if_neg (by omega), if_neg (by omega), if_neg (by omega)])
    have k0 : (k == 0) = false := beq_no (by omega)
    have k1 : (k == 1) = false := beq_no (by omega)
    have k2 : (k == 2) = false := beq_no (by omega)
    have k3 : (k == 3) = false := beq_no (by omega)
    have k4 : (k == 4) = false := beq_no (by omega)
    have k5 : (k == 5) = false := beq_no (by omega)
    have k6 : (k == 6) = false := beq_no (by omega)
    have k7 : (k == 7) = false := beq_no (by omega)
    have k8 : (k == 8) = false := beq_no (by omega)
    have k9 : (k == 9) = false := beq_no (by omega)
    clear hk
    go_enter Try.func19, Try.ntmps19
    go_wp2
    go_ret
    refine ⟨?_, hB.out⟩
    rw [HC.out]; rfl

theorem C_lit (W : World) (l : List Int) (hl : l.length ≤ 9223372036854775806) : Kd.C (Kd.int .i64) (W.alloc (.cells (l.map (Value.int .i64)).toArray 3)) (some ⟨W.heap.size, 0, none⟩) l.length l := by
  refine Kd.C_of_reads (d := (0 : Int)) (h1 := fun _ => rfl) ⟨rfl, by omega, fun _ => ⟨_, rfl, fun j hj => ?_⟩⟩
  have ha : (⟨W.heap.size, 0, none⟩ : Addr).add j = ⟨W.heap.size, j, none⟩ := add_plain _ _
  rw [ha, World.cell?_alloc_new]
  simp [List.getElem?_eq_getElem hj, List.getD_eq_getElem?_getD]
def vinculumlaw25_spaced.f : Option Bool := some true
set_option maxHeartbeats 1000000 in
theorem vinculumlaw25_spaced.calls (r : Bool) (w : World) (h : vinculumlaw25_spaced.f = some r) :
    Calls Try.prog 14 #[] w fun e w' => e = .returned (.bool r) ∧ Below w.heap.size w w' := by
  obtain rfl := Option.some.inj h
  clear h
  go_enter Try.func14, Try.ntmps14
  go_wp2_with fail
  refine (space_Classes.calls _ 7 [2, 0, 2, -1, 0, 2, 3] [0, 0, 2, -1, 0, 0, 3] _ (C_lit w [2, 0, 2, -1, 0, 2, 3] (by decide)) (Nat.le_refl _) (by decide +kernel)).mono ?_
  rintro e w1 ⟨v1, rfl, ho, hb⟩
  have hB : Below w.heap.size w w1 := ((Below.refl _ _).alloc (Nat.le_refl _) _).trans (hb.mono (by simp))
  obtain ⟨A, c, rfl⟩ := own_slice (Kd.own_of_R ho)
  obtain ⟨_, hnc, hC⟩ := Kd.R_reads' ho
  have HC := Aside0.mk hC
  have HB := Aside0.mk hB
  have HNC := Aside0.mk hnc
  clear hC hB ho hb hnc
  go_wp2_with fail
  refine (space_Gap.calls 0 2 2 18000 4000 0 _ (by decide +kernel)).mono ?_
  rintro e w2 ⟨rfl, hb⟩
  have HC2 := Aside0.mk (Kd.C_below HC.out hb)
  have HB2 := Aside0.mk (below_then HB.out HB.out.size hb)
  clear HC HB hb
  go_wp2_with fail
  refine (space_Gap.calls 0 2 4 18000 0 0 _ (by decide +kernel)).mono ?_
  rintro e w3 ⟨rfl, hb⟩
  have HC3 := Aside0.mk (Kd.C_below HC2.out hb)
  have HB3 := Aside0.mk (below_then HB2.out HB2.out.size hb)
  clear HC2 HB2 hb
  go_wp2_with fail
  refine (vinculumref03_Ints.calls 20 A c [0, 0, 2, -1, 0, 0, 3] _ 7 [0, 0, 2, -1, 0, 0, 3] true _ (Kd.C_alloc HC3.out _) HNC.out (C_lit w3 [0, 0, 2, -1, 0, 0, 3] (by decide)) (Nat.le_refl _) (by decide +kernel)).mono ?_
  rintro e w4 ⟨rfl, ⟨n4, rfl⟩⟩
  have HB4 := Aside0.mk (pw_below_drewN (HB3.out.alloc HB3.out.size (.cells #[.int .i64 0, .int .i64 0, .int .i64 2, .int .i64 (-1), .int .i64 0, .int .i64 0, .int .i64 3] 3)) n4)
  clear HC3 HB3
  go_wp2_with fail
  refine (space_Between.calls 1 1 7 3 _ (by decide +kernel)).mono ?_
  rintro e w5 ⟨rfl, hb⟩
  have HB5 := Aside0.mk (below_then HB4.out HB4.out.size hb)
  clear HB4 hb
  go_wp2_with fail
  refine (class_walk 2 0 _ _ _ _ _ _ _ _ _ _).mono ?_
  rintro e w6 ⟨rfl, hb⟩
  have HB6 := Aside0.mk (below_then HB5.out HB5.out.size hb)
  clear HB5 hb
  go_wp2_with fail
  go_ret
  exact ⟨rfl, HB6.out⟩
end Go.Proofs.Ytjmgfhphkkiekaa.P
