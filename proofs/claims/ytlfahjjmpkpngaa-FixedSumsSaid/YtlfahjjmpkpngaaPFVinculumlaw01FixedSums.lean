/- Written for this claim by a program of this session out of the print of the loaded functions; Lean checks it. -/
import Derived.Test.YtlfahjjmpkpngaaP0
import Derived.Test.YtlfahjjmpkpngaaPFVinculumlaw01Checked
import Derived.Test.YtlfahjjmpkpngaaPRRef01
import Derived.Test.YtlfahjjmpkpngaaEFixed
namespace Go.Proofs.Ytlfahjjmpkpngaa.P
open Go.RowKit Go.Proofs.YtlfahjjmpkpngaaW.PrintWords Go.Proofs.YtlfahjjmpkpngaaW.PrintLast Go.Proofs.YtlfahjjmpkpngaaW.PrintMore
attribute [local go_sem] max2_int min2_int max_two min_two max_three min_three max_four min_four   -- for this text's walks alone
set_option linter.unusedVariables false
set_option linter.unusedSimpArgs false

/-! ### vinculumlaw01_FixedSums: function 8 -/
mutual
def vinculumlaw01_FixedSums.j0 : Nat → List Int → List Int → Int → Bool → Option (Bool)
  | 0, _, _, _, _ => none
  | k + 1, x0, x1, x2, x33 => if x33 = true then (some true) else (vinculumlaw01_FixedSums.l0 k x0 x1 x2 ([] : List Int) (wrap64 ((x0.length : Int) - 1)))
def vinculumlaw01_FixedSums.l0 : Nat → List Int → List Int → Int → List Int → Int → Option (Bool)
  | 0, _, _, _, _, _ => none
  | k + 1, x0, x1, x2, x7, x8 => if x8 ≥ 0 then (if 0 ≤ x8 then (if x8 < (x0.length : Int) then (if x7.length < 17592186044416 then (vinculumlaw01_FixedSums.l0 k x0 x1 x2 (x7 ++ [rd x0 x8]) (wrap64 (x8 - 1))) else (none)) else (none)) else (none)) else (if ([] : List Int).length + x0.length < 17592186044416 then ((some (([] : List Int) ++ x0 : List Int)).bind fun y240 => (if y240.length + x1.length < 17592186044416 then ((fixed_Sum.f x0).bind fun bt246 => ((fixed_Sum.f x7).bind fun bt248 => ((fixed_Sum.f x1).bind fun bt250 => ((fixed_Sum.f (y240 ++ x1)).bind fun bt252 => (if bt246.2 = 0 then (if bt248.2 = 0 then (vinculumlaw01_FixedSums.j2 k x0 x2 bt246.1 bt246.2 bt250.1 bt250.2 bt252.1 bt252.2 (bt246.1 != bt248.1)) else (vinculumlaw01_FixedSums.j2 k x0 x2 bt246.1 bt246.2 bt250.1 bt250.2 bt252.1 bt252.2 false)) else (vinculumlaw01_FixedSums.j2 k x0 x2 bt246.1 bt246.2 bt250.1 bt250.2 bt252.1 bt252.2 false)))))) else (none))) else (none))
def vinculumlaw01_FixedSums.j2 : Nat → List Int → Int → Int → Int → Int → Int → Int → Int → Bool → Option (Bool)
  | 0, _, _, _, _, _, _, _, _, _ => none
  | k + 1, x0, x2, x10, x11, x14, x15, x16, x17, x84 => if x84 = true then (some false) else (if x11 = 0 then (if x15 = 0 then (vinculumlaw01_FixedSums.j3 k x0 x2 x10 x11 x14 x16 (x17 == 0)) else (vinculumlaw01_FixedSums.j3 k x0 x2 x10 x11 x14 x16 false)) else (vinculumlaw01_FixedSums.j3 k x0 x2 x10 x11 x14 x16 false))
def vinculumlaw01_FixedSums.j3 : Nat → List Int → Int → Int → Int → Int → Int → Bool → Option (Bool)
  | 0, _, _, _, _, _, _, _ => none
  | k + 1, x0, x2, x10, x11, x14, x16, x94 => if x94 = true then ((fixed_Add.f x10 x14).bind fun bt254 => (if bt254.2 = 0 then (if bt254.1 = x16 then (vinculumlaw01_FixedSums.j4 k x0 x2 x10 x11) else (some false)) else (some false))) else (vinculumlaw01_FixedSums.j4 k x0 x2 x10 x11)
def vinculumlaw01_FixedSums.j4 : Nat → List Int → Int → Int → Int → Option (Bool)
  | 0, _, _, _, _ => none
  | k + 1, x0, x2, x10, x11 => if x2 < 0 then (vinculumlaw01_FixedSums.j5 k x0 x2 x10 x11 true) else (if x2 > 20 then (vinculumlaw01_FixedSums.j5 k x0 x2 x10 x11 true) else (vinculumlaw01_FixedSums.j5 k x0 x2 x10 x11 ((x0.length : Int) == 0)))
def vinculumlaw01_FixedSums.j5 : Nat → List Int → Int → Int → Int → Bool → Option (Bool)
  | 0, _, _, _, _, _ => none
  | k + 1, x0, x2, x10, x11, x118 => if x118 = true then ((vinculumlaw01_checked.f k).bind fun t256 => (if t256 = true then (if x11 = 0 then (some true) else (some (x10 == 0))) else (some false))) else (vinculumlaw01_FixedSums.l1 k x0 x2 ([] : List Int) 0)
def vinculumlaw01_FixedSums.l1 : Nat → List Int → Int → List Int → Int → Option (Bool)
  | 0, _, _, _, _ => none
  | k + 1, x0, x2, x20, x21 => if x21 < x2 then (if 0 < (x0.length : Int) then (if x20.length < 17592186044416 then (vinculumlaw01_FixedSums.l1 k x0 x2 (x20 ++ [rd x0 0]) (wrap64 (x21 + 1))) else (none)) else (none)) else ((fixed_Sum.f x20).bind fun bt261 => (if 0 < (x0.length : Int) then ((fixed_Times.f (rd x0 0) x2).bind fun bt264 => ((vinculumlaw01_checked.f k).bind fun t266 => (if t266 = true then (if x2 = 0 then (if bt261.2 = 0 then (if bt264.2 = 0 then (some (bt261.1 == bt264.1)) else (some true)) else (some true)) else (if bt261.2 = bt264.2 then (if bt261.2 = 0 then (if bt264.2 = 0 then (some (bt261.1 == bt264.1)) else (some true)) else (some true)) else (some false))) else (some false)))) else (none)))
end
def vinculumlaw01_FixedSums.f (k : Nat) (l0 : List Int) (l1 : List Int) (a2 : Int) : Option (Bool) := (vinculumref01_Few.f l0).bind fun t234 => (if t234 = true then ((vinculumref01_Few.f l1).bind fun t235 => (vinculumlaw01_FixedSums.j0 k l0 l1 a2 (!t235))) else (vinculumlaw01_FixedSums.j0 k l0 l1 a2 true))
theorem vinculumlaw01_FixedSums.mono_l : ∀ k, (∀ y0 y1 y2 y3, LeO (vinculumlaw01_FixedSums.j0 k y0 y1 y2 y3) (vinculumlaw01_FixedSums.j0 (k + 1) y0 y1 y2 y3)) ∧ (∀ y0 y1 y2 y3 y4, LeO (vinculumlaw01_FixedSums.l0 k y0 y1 y2 y3 y4) (vinculumlaw01_FixedSums.l0 (k + 1) y0 y1 y2 y3 y4)) ∧ (∀ y0 y1 y2 y3 y4 y5 y6 y7 y8, LeO (vinculumlaw01_FixedSums.j2 k y0 y1 y2 y3 y4 y5 y6 y7 y8) (vinculumlaw01_FixedSums.j2 (k + 1) y0 y1 y2 y3 y4 y5 y6 y7 y8)) ∧ (∀ y0 y1 y2 y3 y4 y5 y6, LeO (vinculumlaw01_FixedSums.j3 k y0 y1 y2 y3 y4 y5 y6) (vinculumlaw01_FixedSums.j3 (k + 1) y0 y1 y2 y3 y4 y5 y6)) ∧ (∀ y0 y1 y2 y3, LeO (vinculumlaw01_FixedSums.j4 k y0 y1 y2 y3) (vinculumlaw01_FixedSums.j4 (k + 1) y0 y1 y2 y3)) ∧ (∀ y0 y1 y2 y3 y4, LeO (vinculumlaw01_FixedSums.j5 k y0 y1 y2 y3 y4) (vinculumlaw01_FixedSums.j5 (k + 1) y0 y1 y2 y3 y4)) ∧ (∀ y0 y1 y2 y3, LeO (vinculumlaw01_FixedSums.l1 k y0 y1 y2 y3) (vinculumlaw01_FixedSums.l1 (k + 1) y0 y1 y2 y3))
  | 0 => ⟨fun _ _ _ _ r h => by simp [vinculumlaw01_FixedSums.j0] at h, fun _ _ _ _ _ r h => by simp [vinculumlaw01_FixedSums.l0] at h, fun _ _ _ _ _ _ _ _ _ r h => by simp [vinculumlaw01_FixedSums.j2] at h, fun _ _ _ _ _ _ _ r h => by simp [vinculumlaw01_FixedSums.j3] at h, fun _ _ _ _ r h => by simp [vinculumlaw01_FixedSums.j4] at h, fun _ _ _ _ _ r h => by simp [vinculumlaw01_FixedSums.j5] at h, fun _ _ _ _ r h => by simp [vinculumlaw01_FixedSums.l1] at h⟩
  | k + 1 => by
    obtain ⟨ih0, ih1, ih2, ih3, ih4, ih5, ih6⟩ := vinculumlaw01_FixedSums.mono_l k
    refine ⟨?_, ?_, ?_, ?_, ?_, ?_, ?_⟩
    · intro y0 y1 y2 y3
      unfold vinculumlaw01_FixedSums.j0
      repeat' first
      | (with_reducible exact ih0 _ _ _ _)
      | (with_reducible exact ih1 _ _ _ _ _)
      | (with_reducible exact ih2 _ _ _ _ _ _ _ _ _)
      | (with_reducible exact ih3 _ _ _ _ _ _ _)
      | (with_reducible exact ih4 _ _ _ _)
      | (with_reducible exact ih5 _ _ _ _ _)
      | (with_reducible exact ih6 _ _ _ _)
      | (with_reducible exact vinculumlaw01_checked.mono _)
      | (with_reducible exact LeO.refl _)
      | (with_reducible exact LeO.none _)
      | (with_reducible refine LeO.ite ?_ ?_)
      | (with_reducible refine LeO.bind ?_ (fun _ => ?_))
      | exact ih0 _ _ _ _
      | exact ih1 _ _ _ _ _
      | exact ih2 _ _ _ _ _ _ _ _ _
      | exact ih3 _ _ _ _ _ _ _
      | exact ih4 _ _ _ _
      | exact ih5 _ _ _ _ _
      | exact ih6 _ _ _ _
      | exact vinculumlaw01_checked.mono _
      | exact LeO.none _
      | refine LeO.ite ?_ ?_
      | refine LeO.bind ?_ (fun _ => ?_)
    · intro y0 y1 y2 y3 y4
      unfold vinculumlaw01_FixedSums.l0
      repeat' first
      | (with_reducible exact ih0 _ _ _ _)
      | (with_reducible exact ih1 _ _ _ _ _)
      | (with_reducible exact ih2 _ _ _ _ _ _ _ _ _)
      | (with_reducible exact ih3 _ _ _ _ _ _ _)
      | (with_reducible exact ih4 _ _ _ _)
      | (with_reducible exact ih5 _ _ _ _ _)
      | (with_reducible exact ih6 _ _ _ _)
      | (with_reducible exact vinculumlaw01_checked.mono _)
      | (with_reducible exact LeO.refl _)
      | (with_reducible exact LeO.none _)
      | (with_reducible refine LeO.ite ?_ ?_)
      | (with_reducible refine LeO.bind ?_ (fun _ => ?_))
      | exact ih0 _ _ _ _
      | exact ih1 _ _ _ _ _
      | exact ih2 _ _ _ _ _ _ _ _ _
      | exact ih3 _ _ _ _ _ _ _
      | exact ih4 _ _ _ _
      | exact ih5 _ _ _ _ _
      | exact ih6 _ _ _ _
      | exact vinculumlaw01_checked.mono _
      | exact LeO.none _
      | refine LeO.ite ?_ ?_
      | refine LeO.bind ?_ (fun _ => ?_)
    · intro y0 y1 y2 y3 y4 y5 y6 y7 y8
      unfold vinculumlaw01_FixedSums.j2
      repeat' first
      | (with_reducible exact ih0 _ _ _ _)
      | (with_reducible exact ih1 _ _ _ _ _)
      | (with_reducible exact ih2 _ _ _ _ _ _ _ _ _)
      | (with_reducible exact ih3 _ _ _ _ _ _ _)
      | (with_reducible exact ih4 _ _ _ _)
      | (with_reducible exact ih5 _ _ _ _ _)
      | (with_reducible exact ih6 _ _ _ _)
      | (with_reducible exact vinculumlaw01_checked.mono _)
      | (with_reducible exact LeO.refl _)
      | (with_reducible exact LeO.none _)
      | (with_reducible refine LeO.ite ?_ ?_)
      | (with_reducible refine LeO.bind ?_ (fun _ => ?_))
      | exact ih0 _ _ _ _
      | exact ih1 _ _ _ _ _
      | exact ih2 _ _ _ _ _ _ _ _ _
      | exact ih3 _ _ _ _ _ _ _
      | exact ih4 _ _ _ _
      | exact ih5 _ _ _ _ _
      | exact ih6 _ _ _ _
      | exact vinculumlaw01_checked.mono _
      | exact LeO.none _
      | refine LeO.ite ?_ ?_
      | refine LeO.bind ?_ (fun _ => ?_)
    · intro y0 y1 y2 y3 y4 y5 y6
      unfold vinculumlaw01_FixedSums.j3
      repeat' first
      | (with_reducible exact ih0 _ _ _ _)
      | (with_reducible exact ih1 _ _ _ _ _)
      | (with_reducible exact ih2 _ _ _ _ _ _ _ _ _)
      | (with_reducible exact ih3 _ _ _ _ _ _ _)
      | (with_reducible exact ih4 _ _ _ _)
      | (with_reducible exact ih5 _ _ _ _ _)
      | (with_reducible exact ih6 _ _ _ _)
      | (with_reducible exact vinculumlaw01_checked.mono _)
      | (with_reducible exact LeO.refl _)
      | (with_reducible exact LeO.none _)
      | (with_reducible refine LeO.ite ?_ ?_)
      | (with_reducible refine LeO.bind ?_ (fun _ => ?_))
      | exact ih0 _ _ _ _
      | exact ih1 _ _ _ _ _
      | exact ih2 _ _ _ _ _ _ _ _ _
      | exact ih3 _ _ _ _ _ _ _
      | exact ih4 _ _ _ _
      | exact ih5 _ _ _ _ _
      | exact ih6 _ _ _ _
      | exact vinculumlaw01_checked.mono _
      | exact LeO.none _
      | refine LeO.ite ?_ ?_
      | refine LeO.bind ?_ (fun _ => ?_)
    · intro y0 y1 y2 y3
      unfold vinculumlaw01_FixedSums.j4
      repeat' first
      | (with_reducible exact ih0 _ _ _ _)
      | (with_reducible exact ih1 _ _ _ _ _)
      | (with_reducible exact ih2 _ _ _ _ _ _ _ _ _)
      | (with_reducible exact ih3 _ _ _ _ _ _ _)
      | (with_reducible exact ih4 _ _ _ _)
      | (with_reducible exact ih5 _ _ _ _ _)
      | (with_reducible exact ih6 _ _ _ _)
      | (with_reducible exact vinculumlaw01_checked.mono _)
      | (with_reducible exact LeO.refl _)
      | (with_reducible exact LeO.none _)
      | (with_reducible refine LeO.ite ?_ ?_)
      | (with_reducible refine LeO.bind ?_ (fun _ => ?_))
      | exact ih0 _ _ _ _
      | exact ih1 _ _ _ _ _
      | exact ih2 _ _ _ _ _ _ _ _ _
      | exact ih3 _ _ _ _ _ _ _
      | exact ih4 _ _ _ _
      | exact ih5 _ _ _ _ _
      | exact ih6 _ _ _ _
      | exact vinculumlaw01_checked.mono _
      | exact LeO.none _
      | refine LeO.ite ?_ ?_
      | refine LeO.bind ?_ (fun _ => ?_)
    · intro y0 y1 y2 y3 y4
      unfold vinculumlaw01_FixedSums.j5
      repeat' first
      | (with_reducible exact ih0 _ _ _ _)
      | (with_reducible exact ih1 _ _ _ _ _)
      | (with_reducible exact ih2 _ _ _ _ _ _ _ _ _)
      | (with_reducible exact ih3 _ _ _ _ _ _ _)
      | (with_reducible exact ih4 _ _ _ _)
      | (with_reducible exact ih5 _ _ _ _ _)
      | (with_reducible exact ih6 _ _ _ _)
      | (with_reducible exact vinculumlaw01_checked.mono _)
      | (with_reducible exact LeO.refl _)
      | (with_reducible exact LeO.none _)
      | (with_reducible refine LeO.ite ?_ ?_)
      | (with_reducible refine LeO.bind ?_ (fun _ => ?_))
      | exact ih0 _ _ _ _
      | exact ih1 _ _ _ _ _
      | exact ih2 _ _ _ _ _ _ _ _ _
      | exact ih3 _ _ _ _ _ _ _
      | exact ih4 _ _ _ _
      | exact ih5 _ _ _ _ _
      | exact ih6 _ _ _ _
      | exact vinculumlaw01_checked.mono _
      | exact LeO.none _
      | refine LeO.ite ?_ ?_
      | refine LeO.bind ?_ (fun _ => ?_)
    · intro y0 y1 y2 y3
      unfold vinculumlaw01_FixedSums.l1
      repeat' first
      | (with_reducible exact ih0 _ _ _ _)
      | (with_reducible exact ih1 _ _ _ _ _)
      | (with_reducible exact ih2 _ _ _ _ _ _ _ _ _)
      | (with_reducible exact ih3 _ _ _ _ _ _ _)
      | (with_reducible exact ih4 _ _ _ _)
      | (with_reducible exact ih5 _ _ _ _ _)
      | (with_reducible exact ih6 _ _ _ _)
      | (with_reducible exact vinculumlaw01_checked.mono _)
      | (with_reducible exact LeO.refl _)
      | (with_reducible exact LeO.none _)
      | (with_reducible refine LeO.ite ?_ ?_)
      | (with_reducible refine LeO.bind ?_ (fun _ => ?_))
      | exact ih0 _ _ _ _
      | exact ih1 _ _ _ _ _
      | exact ih2 _ _ _ _ _ _ _ _ _
      | exact ih3 _ _ _ _ _ _ _
      | exact ih4 _ _ _ _
      | exact ih5 _ _ _ _ _
      | exact ih6 _ _ _ _
      | exact vinculumlaw01_checked.mono _
      | exact LeO.none _
      | refine LeO.ite ?_ ?_
      | refine LeO.bind ?_ (fun _ => ?_)
theorem vinculumlaw01_FixedSums.mono : ∀ a0 a1 a2 k, LeO (vinculumlaw01_FixedSums.f k a0 a1 a2) (vinculumlaw01_FixedSums.f (k + 1) a0 a1 a2) := by
  intro a0 a1 a2 k
  obtain ⟨ih0, ih1, ih2, ih3, ih4, ih5, ih6⟩ := vinculumlaw01_FixedSums.mono_l k
  unfold vinculumlaw01_FixedSums.f
  repeat' first
      | (with_reducible exact ih0 _ _ _ _)
      | (with_reducible exact ih1 _ _ _ _ _)
      | (with_reducible exact ih2 _ _ _ _ _ _ _ _ _)
      | (with_reducible exact ih3 _ _ _ _ _ _ _)
      | (with_reducible exact ih4 _ _ _ _)
      | (with_reducible exact ih5 _ _ _ _ _)
      | (with_reducible exact ih6 _ _ _ _)
      | (with_reducible exact vinculumlaw01_checked.mono _)
      | (with_reducible exact LeO.refl _)
      | (with_reducible exact LeO.none _)
      | (with_reducible refine LeO.ite ?_ ?_)
      | (with_reducible refine LeO.bind ?_ (fun _ => ?_))
      | exact ih0 _ _ _ _
      | exact ih1 _ _ _ _ _
      | exact ih2 _ _ _ _ _ _ _ _ _
      | exact ih3 _ _ _ _ _ _ _
      | exact ih4 _ _ _ _
      | exact ih5 _ _ _ _ _
      | exact ih6 _ _ _ _
      | exact vinculumlaw01_checked.mono _
      | exact LeO.none _
      | refine LeO.ite ?_ ?_
      | refine LeO.bind ?_ (fun _ => ?_)
set_option maxHeartbeats 8000000 in
set_option maxRecDepth 100000 in
theorem vinculumlaw01_FixedSums.calls (k : Nat) (A0 : Option Addr) (c0 : Nat) (l0 : List Int) (A1 : Option Addr) (c1 : Nat) (l1 : List Int) (a2 : Int) (r : Bool) (w : World) (hr0 : Kd.C (Kd.int .i64) w A0 l0.length l0) (hc0 : l0.length ≤ c0) (hr1 : Kd.C (Kd.int .i64) w A1 l1.length l1) (hc1 : l1.length ≤ c1) (h : vinculumlaw01_FixedSums.f k l0 l1 a2 = some r) :
    Calls Try.prog 8 #[.slice A0 l0.length c0, .slice A1 l1.length c1, .int .i64 a2] w fun e w' => e = .returned (.bool r) ∧ Below w.heap.size w w' := by
  have HR0 := Aside0.mk hr0
  have HC0 := Aside0.mk hc0
  clear hr0 hc0
  have HR1 := Aside0.mk hr1
  have HC1 := Aside0.mk hc1
  clear hr1 hc1
  have HB := Aside0.mk (Below.refl w.heap.size w)
  have H : ((vinculumref01_Few.f l0).bind fun t234 => (if t234 = true then ((vinculumref01_Few.f l1).bind fun t235 => (vinculumlaw01_FixedSums.j0 k l0 l1 a2 (!t235))) else (vinculumlaw01_FixedSums.j0 k l0 l1 a2 true))) = some r := h
  clear h
  have HC4 := Aside0.mk H
  clear H
  go_enter Try.func8, Try.ntmps8
  go_upto_region 1 with (fail)
  go_cut [33] (fun v33 wc => ∃ (kq : Nat) (x33_3 : Bool), v33 = .bool x33_3 ∧ Aside0 (vinculumlaw01_FixedSums.j0 kq l0 l1 a2 x33_3 = some r) ∧ Aside0 (kq ≤ k) ∧ Aside0 (Below w.heap.size w wc))
  case first =>
    have H := HC4.out
    clear HC4
    replace H := Option.bind_eq_some_iff.mp H
    obtain ⟨t234, A50, H⟩ := H
    replace H : (if t234 = true then ((vinculumref01_Few.f l1).bind fun t235 => (vinculumlaw01_FixedSums.j0 k l0 l1 a2 (!t235))) else (vinculumlaw01_FixedSums.j0 k l0 l1 a2 true)) = some r := H
    have A5 := Aside0.mk A50
    clear A50
    by_cases c6 : t234 = true
    · subst c6
      have H1 : ((vinculumref01_Few.f l1).bind fun t235 => (vinculumlaw01_FixedSums.j0 k l0 l1 a2 (!t235))) = some r := by rw [if_pos rfl] at H; exact H
      clear H
      have H := H1
      clear H1
      replace H := Option.bind_eq_some_iff.mp H
      obtain ⟨t235, A70, H⟩ := H
      replace H : (vinculumlaw01_FixedSums.j0 k l0 l1 a2 (!t235)) = some r := H
      have A7 := Aside0.mk A70
      clear A70
      have H' := Aside0.mk H
      clear H
      go_wp2_with (first | ((with_reducible refine gate_callee (f := 14) rfl ?_); refine goesL_ (some 27) rfl rfl Try.func14 (by kernel_rfl) rfl #[.slice A0 l0.length c0] rfl (by (try simp only [List.map_toArray, List.map_cons, List.map_nil]); first | done | rfl | (simp only [List.length_drop, List.length_take]; rfl)) ?_; (with_reducible refine (vinculumref01_Few.calls _ _ l0 true _ ?side1 ?side2 A5.out).mono ?_); (case side1 => repeat (first | exact (Kd.C_below HR0.out HB.out) | (with_reducible refine Kd.C_alloc ?_ _) | (with_reducible refine Kd.C_drewN ?_ _) | (with_reducible refine Kd.C_drew ?_))); (case side2 => exact HC0.out); rintro e w' ⟨rfl, ⟨nd, rfl⟩⟩; refine ⟨_, rfl, ?_⟩) | (go_at_call 14; (with_reducible refine (vinculumref01_Few.calls _ _ l1 t235 _ ?side1 ?side2 A7.out).mono ?_); (case side1 => repeat (first | exact (Kd.C_below HR1.out (by repeat (first | (with_reducible first | exact HB.out | apply below_alloc | apply pw_below_drewN | apply below_drew1) | exact HB.out))) | (with_reducible refine Kd.C_alloc ?_ _) | (with_reducible refine Kd.C_drewN ?_ _) | (with_reducible refine Kd.C_drew ?_))); (case side2 => exact HC1.out); rintro e w' ⟨rfl, ⟨nd, rfl⟩⟩))
      go_meet
      case rel => exact ⟨_, (!t235), (by first | rfl | (simp; done) | (simp [*]; done)), H', ⟨by first | omega | exact Nat.le_refl _⟩, ⟨by repeat (first | (with_reducible first | exact HB.out | apply below_alloc | apply pw_below_drewN | apply below_drew1) | exact HB.out)⟩⟩
    · replace c6 := Bool.eq_false_iff.mpr c6
      subst c6
      have H1 : (vinculumlaw01_FixedSums.j0 k l0 l1 a2 true) = some r := by rw [if_neg (show ¬ (false = true) by decide)] at H; exact H
      clear H
      have H := H1
      clear H1
      have H' := Aside0.mk H
      clear H
      go_wp2_with (first | ((with_reducible refine gate_callee (f := 14) rfl ?_); refine goesL_ (some 27) rfl rfl Try.func14 (by kernel_rfl) rfl #[.slice A0 l0.length c0] rfl (by (try simp only [List.map_toArray, List.map_cons, List.map_nil]); first | done | rfl | (simp only [List.length_drop, List.length_take]; rfl)) ?_; (with_reducible refine (vinculumref01_Few.calls _ _ l0 false _ ?side1 ?side2 A5.out).mono ?_); (case side1 => repeat (first | exact (Kd.C_below HR0.out HB.out) | (with_reducible refine Kd.C_alloc ?_ _) | (with_reducible refine Kd.C_drewN ?_ _) | (with_reducible refine Kd.C_drew ?_))); (case side2 => exact HC0.out); rintro e w' ⟨rfl, ⟨nd, rfl⟩⟩; refine ⟨_, rfl, ?_⟩))
      go_meet
      case rel => exact ⟨_, (true), (by first | rfl | (simp; done) | (simp [*]; done)), H', ⟨by first | omega | exact Nat.le_refl _⟩, ⟨by repeat (first | (with_reducible first | exact HB.out | apply below_alloc | apply pw_below_drewN | apply below_drew1) | exact HB.out)⟩⟩
  case rest =>
    clear HC4
    try clear c1
    try clear p2
    try clear c6
    obtain ⟨kq, x33_3, rfl, HA, HJ3, HB⟩ := hcut
    cases kq with
    | zero => exact absurd HA.out (by simp [vinculumlaw01_FixedSums.j0])
    | succ kj3 =>
      have H := HA.out
      clear HA
      simp only [vinculumlaw01_FixedSums.j0] at H
      by_cases c8 : x33_3 = true
      · subst c8
        have H1 : (some true) = some r := by rw [if_pos rfl] at H; exact H
        clear H
        have H := H1
        clear H1
        obtain rfl := Option.some.inj H
        go_wp2
        go_ret
        exact ⟨by first | rfl | (simp [errW_none, errW_some] <;> rfl) | (simp [*, errW_none, errW_some] <;> rfl), by repeat (first | (with_reducible first | exact HB.out | apply below_alloc | apply pw_below_drewN | apply below_drew1) | exact HB.out)⟩
      · replace c8 := Bool.eq_false_iff.mpr c8
        subst c8
        have H1 : (vinculumlaw01_FixedSums.l0 kj3 l0 l1 a2 ([] : List Int) (wrap64 ((l0.length : Int) - 1))) = some r := by rw [if_neg (show ¬ (false = true) by decide)] at H; exact H
        clear H
        have H := H1
        clear H1
        have H' := Aside0.mk H
        clear H
        go_wp2
        go_loopg [7, 8] kj3 (fun kq v7 v8 w' => ∃ (x7_2 : List Int) (x8_2 : Int), v8 = .int .i64 x8_2 ∧ Aside0 (vinculumlaw01_FixedSums.l0 kq l0 l1 a2 x7_2 x8_2 = some r) ∧ Aside0 (kq ≤ kj3) ∧ Aside0 (Kd.R (Kd.int .i64) 3 w' w.heap.size (fun _ => True) v7 x7_2) ∧ Aside0 (Below w.heap.size w w'))
        case atStart => exact ⟨(([] : List Int)), (wrap64 ((l0.length : Int) - 1)), (by first | rfl | (simp; done) | (simp [*]; done)), H', ⟨Nat.le_refl _⟩, ⟨by first | exact Kd.R_nil _ _ _ _ _ | exact Kd.N_nil _ _ _ _ _ | exact Kd.V_nil _ _ _ _ _ | exact Kd.Q_nil _ _ _ _ _ | exact Kd.S_nil _ _ _ _ _⟩, ⟨by repeat (first | (with_reducible first | exact HB.out | apply below_alloc | apply pw_below_drewN | apply below_drew1) | exact HB.out)⟩⟩
        case round =>
          clear H'
          try clear c1
          try clear p2
          try clear c6
          try clear p6
          try clear c8
          try clear p2
          obtain ⟨x7_2, x8_2, rfl, HA, HK2, HO_7, HB⟩ := hrel
          cases gk with
          | zero => exact absurd HA.out (by simp [vinculumlaw01_FixedSums.l0])
          | succ k2 =>
            have H := HA.out
            clear HA
            simp only [vinculumlaw01_FixedSums.l0] at H
            by_cases c9 : x8_2 ≥ 0
            · rw [if_pos c9] at H
              have c9b0 : decide (0 ≤ x8_2) = true := decide_eq_true c9
              clear c9
              by_cases c10 : 0 ≤ x8_2
              · rw [if_pos c10] at H
                have c10b0 : decide (0 ≤ x8_2) = true := decide_eq_true c10
                clear c10
                by_cases c11 : x8_2 < (l0.length : Int)
                · rw [if_pos c11] at H
                  have c11b0 : decide (x8_2 < (l0.length : Int)) = true := decide_eq_true c11
                  clear c11
                  by_cases c12 : x7_2.length < 17592186044416
                  · rw [if_pos c12] at H
                    have LMc12 := Aside0.mk c12
                    clear c12
                    obtain ⟨y237, hy237⟩ : ∃ y_ : List Int, y_ = (x7_2 ++ [rd l0 x8_2]) := ⟨_, rfl⟩
                    replace H : (vinculumlaw01_FixedSums.l0 k2 l0 l1 a2 y237 (wrap64 (x8_2 - 1))) = some r := by first | (rw [hy237]; with_reducible exact H) | (have H2_ := (Option.bind_some _ _).symm.trans H; rw [hy237]; with_reducible exact H2_) | (have H2_ := (Option.bind_some _ _).symm.trans H; with_reducible exact H2_) | with_reducible exact H | (rw [hy237]; exact H) | exact H
                    have Ny237 := Aside0.mk hy237
                    clear hy237
                    have H' := Aside0.mk H
                    clear H
                    have p236 : 0 ≤ (x8_2 : Int) := of_decide_eq_true (by first | (with_reducible assumption) | assumption)
                    have q236 : x8_2 < (l0.length : Int) := of_decide_eq_true (by first | (with_reducible assumption) | assumption)
                    obtain ⟨ad236, e236, hx236_0⟩ := Kd.at_int HR0.out x8_2 p236 q236
                    cases e236
                    replace hx236_0 := (HB.out.cell (World.block_lt_of_cell? w _ hx236_0)).trans hx236_0
                    replace p236 := eq_true p236
                    replace q236 := eq_true q236
                    go_wp2_with (first | ((with_reducible refine gate_builtin (b := .append) (xs := #[.tmp 41, .tmp 46]) rfl ?_); (try (refine gate_guard (by rfl) ?_; dsimp only)); at_builtin; refine Kd.R_append (Kd.int .i64) (w0 := w) w.heap.size rfl (.tmp 41) (.tmp 46) 32 3 (.int .i64 0) 8 rfl Try.underlying32 info3 rfl (by decide) (by omega) u7 x7_2 (rd l0 x8_2) [.int .i64 (rd l0 x8_2)] (fun _ => True) (fun _ => False) rfl rfl ?aP (fun _ hk => hk.elim) ?aF ?aO ?aB ?aS ?aL ?_; (case aP => exact rfl); (case aB => exact (by repeat (first | (with_reducible first | exact HB.out | apply below_alloc | apply pw_below_drewN | apply below_drew1) | exact HB.out))); (case aF => exact (fun _ _ => trivial)); (case aO => exact (by (with_reducible repeat (first | apply Kd.R_alloc | apply Kd.R_drewN | apply Kd.R_drew)); exact HO_7.out)); (case aS => exact (below_size (by repeat (first | (with_reducible first | exact HB.out | apply below_alloc | apply pw_below_drewN | apply below_drew1) | exact HB.out)))); (case aL => have := LMc12.out; omega); intro v238 w13 ho hb hg hat; rw [← Ny237.out] at ho; have n0_ := Aside0.mk (hb); have n1_ := Aside0.mk (ho); clear HB; clear HO_7; have HB := n0_; have HO239 := n1_; clear n0_ n1_; clear ho hb hg hat))
                    go_roundg k2
                    case measure => have := HJ3.out; have := HK2.out; omega
                    case rel => exact ⟨(y237), (wrap64 (x8_2 - 1)), (by first | rfl | (simp; done) | (simp [*]; done)), H', ⟨by have := HJ3.out; have := HK2.out; omega⟩, ⟨by (with_reducible repeat (first | apply Kd.R_alloc | apply Kd.R_drewN | apply Kd.R_drew)); exact HO239.out⟩, ⟨by repeat (first | (with_reducible first | exact HB.out | apply below_alloc | apply pw_below_drewN | apply below_drew1) | exact HB.out)⟩⟩
                  · rw [if_neg c12] at H
                    exact absurd H (by simp)
                · rw [if_neg c11] at H
                  exact absurd H (by simp)
              · rw [if_neg c10] at H
                exact absurd H (by simp)
            · rw [if_neg c9] at H
              have c9b0 : decide (0 ≤ x8_2) = false := decide_eq_false c9
              clear c9
              by_cases c14 : ([] : List Int).length + l0.length < 17592186044416
              · rw [if_pos c14] at H
                have LMc14 := Aside0.mk c14
                clear c14
                obtain ⟨y240, hy240⟩ : ∃ y_ : List Int, y_ = (([] : List Int) ++ l0) := ⟨_, rfl⟩
                replace H : (if y240.length + l1.length < 17592186044416 then ((fixed_Sum.f l0).bind fun bt246 => ((fixed_Sum.f x7_2).bind fun bt248 => ((fixed_Sum.f l1).bind fun bt250 => ((fixed_Sum.f (y240 ++ l1)).bind fun bt252 => (if bt246.2 = 0 then (if bt248.2 = 0 then (vinculumlaw01_FixedSums.j2 k2 l0 a2 bt246.1 bt246.2 bt250.1 bt250.2 bt252.1 bt252.2 (bt246.1 != bt248.1)) else (vinculumlaw01_FixedSums.j2 k2 l0 a2 bt246.1 bt246.2 bt250.1 bt250.2 bt252.1 bt252.2 false)) else (vinculumlaw01_FixedSums.j2 k2 l0 a2 bt246.1 bt246.2 bt250.1 bt250.2 bt252.1 bt252.2 false)))))) else (none)) = some r := by first | (rw [hy240]; with_reducible exact H) | (have H2_ := (Option.bind_some _ _).symm.trans H; rw [hy240]; with_reducible exact H2_) | (have H2_ := (Option.bind_some _ _).symm.trans H; with_reducible exact H2_) | with_reducible exact H | (rw [hy240]; exact H) | exact H
                have Ny240 := Aside0.mk hy240
                clear hy240
                by_cases c15 : y240.length + l1.length < 17592186044416
                · rw [if_pos c15] at H
                  have LMc15 := Aside0.mk c15
                  clear c15
                  obtain ⟨y243, hy243⟩ : ∃ y_ : List Int, y_ = (y240 ++ l1) := ⟨_, rfl⟩
                  replace H : ((fixed_Sum.f l0).bind fun bt246 => ((fixed_Sum.f x7_2).bind fun bt248 => ((fixed_Sum.f l1).bind fun bt250 => ((fixed_Sum.f y243).bind fun bt252 => (if bt246.2 = 0 then (if bt248.2 = 0 then (vinculumlaw01_FixedSums.j2 k2 l0 a2 bt246.1 bt246.2 bt250.1 bt250.2 bt252.1 bt252.2 (bt246.1 != bt248.1)) else (vinculumlaw01_FixedSums.j2 k2 l0 a2 bt246.1 bt246.2 bt250.1 bt250.2 bt252.1 bt252.2 false)) else (vinculumlaw01_FixedSums.j2 k2 l0 a2 bt246.1 bt246.2 bt250.1 bt250.2 bt252.1 bt252.2 false)))))) = some r := by first | (rw [hy243]; with_reducible exact H) | (have H2_ := (Option.bind_some _ _).symm.trans H; rw [hy243]; with_reducible exact H2_) | (have H2_ := (Option.bind_some _ _).symm.trans H; with_reducible exact H2_) | with_reducible exact H | (rw [hy243]; exact H) | exact H
                  have Ny243 := Aside0.mk hy243
                  clear hy243
                  replace H := Option.bind_eq_some_iff.mp H
                  obtain ⟨⟨t246, t247⟩, A160, H⟩ := H
                  replace H : ((fixed_Sum.f x7_2).bind fun bt248 => ((fixed_Sum.f l1).bind fun bt250 => ((fixed_Sum.f y243).bind fun bt252 => (if t247 = 0 then (if bt248.2 = 0 then (vinculumlaw01_FixedSums.j2 k2 l0 a2 t246 t247 bt250.1 bt250.2 bt252.1 bt252.2 (t246 != bt248.1)) else (vinculumlaw01_FixedSums.j2 k2 l0 a2 t246 t247 bt250.1 bt250.2 bt252.1 bt252.2 false)) else (vinculumlaw01_FixedSums.j2 k2 l0 a2 t246 t247 bt250.1 bt250.2 bt252.1 bt252.2 false))))) = some r := H
                  have A16 := Aside0.mk A160
                  clear A160
                  replace H := Option.bind_eq_some_iff.mp H
                  obtain ⟨⟨t248, t249⟩, A170, H⟩ := H
                  replace H : ((fixed_Sum.f l1).bind fun bt250 => ((fixed_Sum.f y243).bind fun bt252 => (if t247 = 0 then (if t249 = 0 then (vinculumlaw01_FixedSums.j2 k2 l0 a2 t246 t247 bt250.1 bt250.2 bt252.1 bt252.2 (t246 != t248)) else (vinculumlaw01_FixedSums.j2 k2 l0 a2 t246 t247 bt250.1 bt250.2 bt252.1 bt252.2 false)) else (vinculumlaw01_FixedSums.j2 k2 l0 a2 t246 t247 bt250.1 bt250.2 bt252.1 bt252.2 false)))) = some r := H
                  have A17 := Aside0.mk A170
                  clear A170
                  replace H := Option.bind_eq_some_iff.mp H
                  obtain ⟨⟨t250, t251⟩, A180, H⟩ := H
                  replace H : ((fixed_Sum.f y243).bind fun bt252 => (if t247 = 0 then (if t249 = 0 then (vinculumlaw01_FixedSums.j2 k2 l0 a2 t246 t247 t250 t251 bt252.1 bt252.2 (t246 != t248)) else (vinculumlaw01_FixedSums.j2 k2 l0 a2 t246 t247 t250 t251 bt252.1 bt252.2 false)) else (vinculumlaw01_FixedSums.j2 k2 l0 a2 t246 t247 t250 t251 bt252.1 bt252.2 false))) = some r := H
                  have A18 := Aside0.mk A180
                  clear A180
                  replace H := Option.bind_eq_some_iff.mp H
                  obtain ⟨⟨t252, t253⟩, A190, H⟩ := H
                  replace H : (if t247 = 0 then (if t249 = 0 then (vinculumlaw01_FixedSums.j2 k2 l0 a2 t246 t247 t250 t251 t252 t253 (t246 != t248)) else (vinculumlaw01_FixedSums.j2 k2 l0 a2 t246 t247 t250 t251 t252 t253 false)) else (vinculumlaw01_FixedSums.j2 k2 l0 a2 t246 t247 t250 t251 t252 t253 false)) = some r := H
                  have A19 := Aside0.mk A190
                  clear A190
                  have HC20 := Aside0.mk H
                  clear H
                  go_upto_region 15 with (first | ((with_reducible refine gate_builtin (b := .append) (xs := #[.tmp 48, .tmp 49]) rfl ?_); (try (refine gate_guard (by rfl) ?_; dsimp only)); at_builtin; refine Kd.R_append_rows (Kd.int .i64) (w0 := w) w.heap.size rfl (.tmp 48) (.tmp 49) 32 3 (.int .i64 0) 8 rfl Try.underlying32 info3 rfl (by decide) (by omega) (.slice none 0 0) ([] : List Int) l0 _ _ _ (fun k_ => some k_ ≠ (u7 : Value).ownBlock) (fun _ => False) rfl rfl ?aO ?aR (fun _ _ h => h) (fun _ h => h.elim) ?aF ?aB ?aS ?aL ?_; (case aR => repeat (first | exact (Kd.C_below HR0.out HB.out) | (with_reducible refine Kd.C_alloc ?_ _) | (with_reducible refine Kd.C_drewN ?_ _) | (with_reducible refine Kd.C_drew ?_))); (case aB => exact (by repeat (first | (with_reducible first | exact HB.out | apply below_alloc | apply pw_below_drewN | apply below_drew1) | exact HB.out))); (case aF => exact (fun k_ hk => Kd.fresh' (Kd.R_lt (by (with_reducible repeat (first | apply Kd.R_alloc | apply Kd.R_drewN | apply Kd.R_drew)); exact HO_7.out)) k_ hk)); (case aO => exact ((Kd.R_nil _ _ _ _ (fun k_ => some k_ ≠ (u7 : Value).ownBlock)))); (case aS => exact (below_size (by repeat (first | (with_reducible first | exact HB.out | apply below_alloc | apply pw_below_drewN | apply below_drew1) | exact HB.out)))); (case aL => have := LMc14.out; omega); intro v241 w21 ho hb hg hat; rw [← Ny240.out] at ho; have n0_ := Aside0.mk (Kd.R_after (Kd.R_apart_nil (by (with_reducible repeat (first | apply Kd.R_alloc | apply Kd.R_drewN | apply Kd.R_drew)); exact HO_7.out)) hg hat); have n1_ := Aside0.mk (hb); have n2_ := Aside0.mk (ho); clear HO_7; clear HB; have HO_7 := n0_; have HB := n1_; have HO242 := n2_; clear n0_ n1_ n2_; clear ho hb hg hat) | ((with_reducible refine gate_builtin (b := .append) (xs := #[.tmp 51, .tmp 52]) rfl ?_); (try (refine gate_guard (by rfl) ?_; dsimp only)); at_builtin; refine Kd.R_append_rows (Kd.int .i64) (w0 := w) w.heap.size rfl (.tmp 51) (.tmp 52) 32 3 (.int .i64 0) 8 rfl Try.underlying32 info3 rfl (by decide) (by omega) v241 y240 l1 _ _ _ (fun k_ => some k_ ≠ (u7 : Value).ownBlock) (fun _ => False) rfl rfl ?aO ?aR (fun _ _ h => h) (fun _ h => h.elim) ?aF ?aB ?aS ?aL ?_; (case aR => repeat (first | exact (Kd.C_below HR1.out HB.out) | (with_reducible refine Kd.C_alloc ?_ _) | (with_reducible refine Kd.C_drewN ?_ _) | (with_reducible refine Kd.C_drew ?_))); (case aB => exact (by repeat (first | (with_reducible first | exact HB.out | apply below_alloc | apply pw_below_drewN | apply below_drew1) | exact HB.out))); (case aF => exact (fun k_ hk => Kd.fresh' (Kd.R_lt (by (with_reducible repeat (first | apply Kd.R_alloc | apply Kd.R_drewN | apply Kd.R_drew)); exact HO_7.out)) k_ hk)); (case aO => exact (by (with_reducible repeat (first | apply Kd.R_alloc | apply Kd.R_drewN | apply Kd.R_drew)); exact HO242.out)); (case aS => exact (below_size (by repeat (first | (with_reducible first | exact HB.out | apply below_alloc | apply pw_below_drewN | apply below_drew1) | exact HB.out)))); (case aL => have := LMc15.out; omega); intro v244 w22 ho hb hg hat; rw [← Ny243.out] at ho; have n0_ := Aside0.mk (Kd.R_after (ok := (fun _ => True)) (by (with_reducible repeat (first | apply Kd.R_alloc | apply Kd.R_drewN | apply Kd.R_drew)); exact HO_7.out) hg hat); have n1_ := Aside0.mk (hb); have n2_ := Aside0.mk (ho); clear HO_7; clear HB; clear HO242; have HO_7 := n0_; have HB := n1_; have HO245 := n2_; clear n0_ n1_ n2_; clear ho hb hg hat) | ((with_reducible refine gate_callee (f := 15) rfl ?_); refine goesL_ (some 56) rfl rfl Try.func15 (by kernel_rfl) rfl #[.slice A0 l0.length c0] rfl (by (try simp only [List.map_toArray, List.map_cons, List.map_nil]); first | done | rfl | (simp only [List.length_drop, List.length_take]; rfl)) ?_; (with_reducible refine (fixed_Sum.calls _ _ l0 t246 t247 _ ?side1 ?side2 A16.out).mono ?_); (case side1 => repeat (first | exact (Kd.C_below HR0.out HB.out) | (with_reducible refine Kd.C_alloc ?_ _) | (with_reducible refine Kd.C_drewN ?_ _) | (with_reducible refine Kd.C_drew ?_))); (case side2 => exact HC0.out); rintro e w23 ⟨rfl, hb⟩; refine ⟨_, rfl, ?_⟩; have n0_ := Aside0.mk (Kd.R_below (by (with_reducible repeat (first | apply Kd.R_alloc | apply Kd.R_drewN | apply Kd.R_drew)); exact HO_7.out) hb); have n1_ := Aside0.mk (Kd.R_below (by (with_reducible repeat (first | apply Kd.R_alloc | apply Kd.R_drewN | apply Kd.R_drew)); exact HO245.out) hb); have n2_ := Aside0.mk (below_step (by repeat (first | (with_reducible first | exact HB.out | apply below_alloc | apply pw_below_drewN | apply below_drew1) | exact HB.out)) hb); clear HO_7; clear HO245; clear HB; have HO_7 := n0_; have HO245 := n1_; have HB := n2_; clear n0_ n1_ n2_; (try clear hb); (try clear hb2); (try clear hk); (try clear hi); obtain ⟨Ao24, co24, eo24⟩ := Kd.R_slice HO_7.out; subst eo24) | ((with_reducible refine gate_callee (f := 15) rfl ?_); refine goesL_ (some 61) rfl rfl Try.func15 (by kernel_rfl) rfl #[.slice Ao24 x7_2.length co24] rfl (by (try simp only [List.map_toArray, List.map_cons, List.map_nil]); first | done | rfl | (simp only [List.length_drop, List.length_take]; rfl)) ?_; (with_reducible refine (fixed_Sum.calls _ _ x7_2 t248 t249 _ ?side1 ?side2 A17.out).mono ?_); (case side1 => repeat (first | exact (Kd.R_reads' HO_7.out).2.2 | (with_reducible refine Kd.C_alloc ?_ _) | (with_reducible refine Kd.C_drewN ?_ _) | (with_reducible refine Kd.C_drew ?_))); (case side2 => exact (Kd.R_reads' HO_7.out).2.1); rintro e w25 ⟨rfl, hb⟩; refine ⟨_, rfl, ?_⟩; have n0_ := Aside0.mk (Kd.R_below (by (with_reducible repeat (first | apply Kd.R_alloc | apply Kd.R_drewN | apply Kd.R_drew)); exact HO_7.out) hb); have n1_ := Aside0.mk (Kd.R_below (by (with_reducible repeat (first | apply Kd.R_alloc | apply Kd.R_drewN | apply Kd.R_drew)); exact HO245.out) hb); have n2_ := Aside0.mk (below_step (by repeat (first | (with_reducible first | exact HB.out | apply below_alloc | apply pw_below_drewN | apply below_drew1) | exact HB.out)) hb); clear HO_7; clear HO245; clear HB; have HO_7 := n0_; have HO245 := n1_; have HB := n2_; clear n0_ n1_ n2_; (try clear hb); (try clear hb2); (try clear hk); (try clear hi)) | ((with_reducible refine gate_callee (f := 15) rfl ?_); refine goesL_ (some 66) rfl rfl Try.func15 (by kernel_rfl) rfl #[.slice A1 l1.length c1] rfl (by (try simp only [List.map_toArray, List.map_cons, List.map_nil]); first | done | rfl | (simp only [List.length_drop, List.length_take]; rfl)) ?_; (with_reducible refine (fixed_Sum.calls _ _ l1 t250 t251 _ ?side1 ?side2 A18.out).mono ?_); (case side1 => repeat (first | exact (Kd.C_below HR1.out HB.out) | (with_reducible refine Kd.C_alloc ?_ _) | (with_reducible refine Kd.C_drewN ?_ _) | (with_reducible refine Kd.C_drew ?_))); (case side2 => exact HC1.out); rintro e w26 ⟨rfl, hb⟩; refine ⟨_, rfl, ?_⟩; have n0_ := Aside0.mk (Kd.R_below (by (with_reducible repeat (first | apply Kd.R_alloc | apply Kd.R_drewN | apply Kd.R_drew)); exact HO_7.out) hb); have n1_ := Aside0.mk (Kd.R_below (by (with_reducible repeat (first | apply Kd.R_alloc | apply Kd.R_drewN | apply Kd.R_drew)); exact HO245.out) hb); have n2_ := Aside0.mk (below_step (by repeat (first | (with_reducible first | exact HB.out | apply below_alloc | apply pw_below_drewN | apply below_drew1) | exact HB.out)) hb); clear HO_7; clear HO245; clear HB; have HO_7 := n0_; have HO245 := n1_; have HB := n2_; clear n0_ n1_ n2_; (try clear hb); (try clear hb2); (try clear hk); (try clear hi); obtain ⟨Ao27, co27, eo27⟩ := Kd.R_slice HO245.out; subst eo27) | ((with_reducible refine gate_callee (f := 15) rfl ?_); refine goesL_ (some 71) rfl rfl Try.func15 (by kernel_rfl) rfl #[.slice Ao27 y243.length co27] rfl (by (try simp only [List.map_toArray, List.map_cons, List.map_nil]); first | done | rfl | (simp only [List.length_drop, List.length_take]; rfl)) ?_; (with_reducible refine (fixed_Sum.calls _ _ y243 t252 t253 _ ?side1 ?side2 A19.out).mono ?_); (case side1 => repeat (first | exact (Kd.R_reads' HO245.out).2.2 | (with_reducible refine Kd.C_alloc ?_ _) | (with_reducible refine Kd.C_drewN ?_ _) | (with_reducible refine Kd.C_drew ?_))); (case side2 => exact (Kd.R_reads' HO245.out).2.1); rintro e w28 ⟨rfl, hb⟩; refine ⟨_, rfl, ?_⟩; have n0_ := Aside0.mk (Kd.R_below (by (with_reducible repeat (first | apply Kd.R_alloc | apply Kd.R_drewN | apply Kd.R_drew)); exact HO_7.out) hb); have n1_ := Aside0.mk (Kd.R_below (by (with_reducible repeat (first | apply Kd.R_alloc | apply Kd.R_drewN | apply Kd.R_drew)); exact HO245.out) hb); have n2_ := Aside0.mk (below_step (by repeat (first | (with_reducible first | exact HB.out | apply below_alloc | apply pw_below_drewN | apply below_drew1) | exact HB.out)) hb); clear HO_7; clear HO245; clear HB; have HO_7 := n0_; have HO245 := n1_; have HB := n2_; clear n0_ n1_ n2_; (try clear hb); (try clear hb2); (try clear hk); (try clear hi)))
                  (try simp only [Act.put, List.setIfInBounds_toArray, List.set_cons_zero, List.set_cons_succ])
                  go_cut [84] (fun v84 wc => ∃ (kq : Nat) (x84_19 : Bool), v84 = .bool x84_19 ∧ Aside0 (vinculumlaw01_FixedSums.j2 kq l0 a2 t246 t247 t250 t251 t252 t253 x84_19 = some r) ∧ Aside0 (kq ≤ k2) ∧ Aside0 (Below w.heap.size w wc))
                  case first =>
                    have H := HC20.out
                    clear HC20
                    by_cases c29 : t247 = 0
                    · rw [if_pos c29] at H
                      have c29b0 : (t247 == 0) = true := beq_iff_eq.mpr c29
                      have c29b1 : (t247 != 0) = false := bne_eq_false_iff_eq.mpr c29
                      clear c29
                      (first | rw [c29b0] | (simp only [i64_w, i32_w]; rw [c29b0]) | skip)
                      by_cases c30 : t249 = 0
                      · rw [if_pos c30] at H
                        have c30b0 : (t249 == 0) = true := beq_iff_eq.mpr c30
                        have c30b1 : (t249 != 0) = false := bne_eq_false_iff_eq.mpr c30
                        clear c30
                        have H' := Aside0.mk H
                        clear H
                        go_wp2
                        go_meet
                        case rel => exact ⟨_, ((t246 != t248)), (by first | rfl | (simp; done) | (simp [*]; done)), H', ⟨by have := HJ3.out; have := HK2.out; first | omega | exact Nat.le_refl _⟩, ⟨by repeat (first | (with_reducible first | exact HB.out | apply below_alloc | apply pw_below_drewN | apply below_drew1) | exact HB.out)⟩⟩
                      · rw [if_neg c30] at H
                        have c30b0 : (t249 == 0) = false := beq_eq_false_iff_ne.mpr c30
                        have c30b1 : (t249 != 0) = true := bne_iff_ne.mpr c30
                        have H' := Aside0.mk H
                        clear H
                        go_wp2
                        go_meet
                        case rel => exact ⟨_, (false), (by first | rfl | (simp; done) | (simp [*]; done)), H', ⟨by have := HJ3.out; have := HK2.out; first | omega | exact Nat.le_refl _⟩, ⟨by repeat (first | (with_reducible first | exact HB.out | apply below_alloc | apply pw_below_drewN | apply below_drew1) | exact HB.out)⟩⟩
                    · rw [if_neg c29] at H
                      have c29b0 : (t247 == 0) = false := beq_eq_false_iff_ne.mpr c29
                      have c29b1 : (t247 != 0) = true := bne_iff_ne.mpr c29
                      (first | rw [c29b0] | (simp only [i64_w, i32_w]; rw [c29b0]) | skip)
                      have H' := Aside0.mk H
                      clear H
                      go_wp2
                      go_meet
                      case rel => exact ⟨_, (false), (by first | rfl | (simp; done) | (simp [*]; done)), H', ⟨by have := HJ3.out; have := HK2.out; first | omega | exact Nat.le_refl _⟩, ⟨by repeat (first | (with_reducible first | exact HB.out | apply below_alloc | apply pw_below_drewN | apply below_drew1) | exact HB.out)⟩⟩
                  case rest =>
                    clear HC20
                    try clear c1
                    try clear c2
                    try clear p2
                    try clear q2
                    try clear hx2
                    try clear c3
                    try clear c6
                    try clear p6
                    try clear c8
                    try clear c9
                    try clear c9b0
                    try clear c10
                    try clear c10b0
                    try clear c11
                    try clear c11b0
                    try clear c12
                    try clear c14
                    try clear c15
                    try clear p23
                    try clear q23
                    try clear hx23
                    try clear c29
                    try clear c29b0
                    try clear c29b1
                    try clear c30
                    try clear c30b0
                    try clear c30b1
                    try clear hx236_0
                    try clear p2
                    try clear p236
                    try clear p6
                    try clear q236
                    obtain ⟨kq, x84_19, rfl, HA, HJ19, HB⟩ := hcut
                    cases kq with
                    | zero => exact absurd HA.out (by simp [vinculumlaw01_FixedSums.j2])
                    | succ kj19 =>
                      have H := HA.out
                      clear HA
                      simp only [vinculumlaw01_FixedSums.j2] at H
                      by_cases c31 : x84_19 = true
                      · subst c31
                        have H1 : (some false) = some r := by rw [if_pos rfl] at H; exact H
                        clear H
                        have H := H1
                        clear H1
                        obtain rfl := Option.some.inj H
                        go_wp2
                        go_ret
                        exact ⟨by first | rfl | (simp [errW_none, errW_some] <;> rfl) | (simp [*, errW_none, errW_some] <;> rfl), by repeat (first | (with_reducible first | exact HB.out | apply below_alloc | apply pw_below_drewN | apply below_drew1) | exact HB.out)⟩
                      · replace c31 := Bool.eq_false_iff.mpr c31
                        subst c31
                        have H1 : (if t247 = 0 then (if t251 = 0 then (vinculumlaw01_FixedSums.j3 kj19 l0 a2 t246 t247 t250 t252 (t253 == 0)) else (vinculumlaw01_FixedSums.j3 kj19 l0 a2 t246 t247 t250 t252 false)) else (vinculumlaw01_FixedSums.j3 kj19 l0 a2 t246 t247 t250 t252 false)) = some r := by rw [if_neg (show ¬ (false = true) by decide)] at H; exact H
                        clear H
                        have H := H1
                        clear H1
                        have HC32 := Aside0.mk H
                        clear H
                        go_upto_region 17 with (fail)
                        go_cut [94] (fun v94 wc => ∃ (kq : Nat) (x94_31 : Bool), v94 = .bool x94_31 ∧ Aside0 (vinculumlaw01_FixedSums.j3 kq l0 a2 t246 t247 t250 t252 x94_31 = some r) ∧ Aside0 (kq ≤ kj19) ∧ Aside0 (Below w.heap.size w wc))
                        case first =>
                          have H := HC32.out
                          clear HC32
                          by_cases c33 : t247 = 0
                          · rw [if_pos c33] at H
                            have c33b0 : (t247 == 0) = true := beq_iff_eq.mpr c33
                            have c33b1 : (t247 != 0) = false := bne_eq_false_iff_eq.mpr c33
                            clear c33
                            (first | rw [c33b0] | (simp only [i64_w, i32_w]; rw [c33b0]) | skip)
                            by_cases c34 : t251 = 0
                            · rw [if_pos c34] at H
                              have c34b0 : (t251 == 0) = true := beq_iff_eq.mpr c34
                              have c34b1 : (t251 != 0) = false := bne_eq_false_iff_eq.mpr c34
                              clear c34
                              have H' := Aside0.mk H
                              clear H
                              go_wp2
                              go_meet
                              case rel => exact ⟨_, ((t253 == 0)), (by first | rfl | (simp; done) | (simp [*]; done)), H', ⟨by have := HJ3.out; have := HK2.out; have := HJ19.out; first | omega | exact Nat.le_refl _⟩, ⟨by repeat (first | (with_reducible first | exact HB.out | apply below_alloc | apply pw_below_drewN | apply below_drew1) | exact HB.out)⟩⟩
                            · rw [if_neg c34] at H
                              have c34b0 : (t251 == 0) = false := beq_eq_false_iff_ne.mpr c34
                              have c34b1 : (t251 != 0) = true := bne_iff_ne.mpr c34
                              have H' := Aside0.mk H
                              clear H
                              go_wp2
                              go_meet
                              case rel => exact ⟨_, (false), (by first | rfl | (simp; done) | (simp [*]; done)), H', ⟨by have := HJ3.out; have := HK2.out; have := HJ19.out; first | omega | exact Nat.le_refl _⟩, ⟨by repeat (first | (with_reducible first | exact HB.out | apply below_alloc | apply pw_below_drewN | apply below_drew1) | exact HB.out)⟩⟩
                          · rw [if_neg c33] at H
                            have c33b0 : (t247 == 0) = false := beq_eq_false_iff_ne.mpr c33
                            have c33b1 : (t247 != 0) = true := bne_iff_ne.mpr c33
                            (first | rw [c33b0] | (simp only [i64_w, i32_w]; rw [c33b0]) | skip)
                            have H' := Aside0.mk H
                            clear H
                            go_wp2
                            go_meet
                            case rel => exact ⟨_, (false), (by first | rfl | (simp; done) | (simp [*]; done)), H', ⟨by have := HJ3.out; have := HK2.out; have := HJ19.out; first | omega | exact Nat.le_refl _⟩, ⟨by repeat (first | (with_reducible first | exact HB.out | apply below_alloc | apply pw_below_drewN | apply below_drew1) | exact HB.out)⟩⟩
                        case rest =>
                          clear HC32
                          try clear c1
                          try clear c2
                          try clear p2
                          try clear q2
                          try clear hx2
                          try clear c3
                          try clear c6
                          try clear p6
                          try clear c8
                          try clear c9
                          try clear c9b0
                          try clear c10
                          try clear c10b0
                          try clear c11
                          try clear c11b0
                          try clear c12
                          try clear c14
                          try clear c15
                          try clear p23
                          try clear q23
                          try clear hx23
                          try clear c29
                          try clear c29b0
                          try clear c29b1
                          try clear c30
                          try clear c30b0
                          try clear c30b1
                          try clear c31
                          try clear c33
                          try clear c33b0
                          try clear c33b1
                          try clear c34
                          try clear c34b0
                          try clear c34b1
                          try clear hx236_0
                          try clear p2
                          try clear p23
                          try clear p236
                          try clear p6
                          try clear q2
                          try clear q23
                          try clear q236
                          obtain ⟨kq, x94_31, rfl, HA, HJ31, HB⟩ := hcut
                          cases kq with
                          | zero => exact absurd HA.out (by simp [vinculumlaw01_FixedSums.j3])
                          | succ kj31 =>
                            have H := HA.out
                            clear HA
                            simp only [vinculumlaw01_FixedSums.j3] at H
                            have HC35 := Aside0.mk H
                            clear H
                            go_upto_if 94 with (fail)
                            go_cut [] (fun wc => ∃ (kq : Nat), Aside0 (vinculumlaw01_FixedSums.j4 kq l0 a2 t246 t247 = some r) ∧ Aside0 (kq ≤ kj31) ∧ Aside0 (Below w.heap.size w wc))
                            case first =>
                              have H := HC35.out
                              clear HC35
                              by_cases c36 : x94_31 = true
                              · subst c36
                                have H1 : ((fixed_Add.f t246 t250).bind fun bt254 => (if bt254.2 = 0 then (if bt254.1 = t252 then (vinculumlaw01_FixedSums.j4 kj31 l0 a2 t246 t247) else (some false)) else (some false))) = some r := by rw [if_pos rfl] at H; exact H
                                clear H
                                have H := H1
                                clear H1
                                replace H := Option.bind_eq_some_iff.mp H
                                obtain ⟨⟨t254, t255⟩, A370, H⟩ := H
                                replace H : (if t255 = 0 then (if t254 = t252 then (vinculumlaw01_FixedSums.j4 kj31 l0 a2 t246 t247) else (some false)) else (some false)) = some r := H
                                have A37 := Aside0.mk A370
                                clear A370
                                by_cases c38 : t255 = 0
                                · rw [if_pos c38] at H
                                  have c38b0 : (t255 == 0) = true := beq_iff_eq.mpr c38
                                  have c38b1 : (t255 != 0) = false := bne_eq_false_iff_eq.mpr c38
                                  clear c38
                                  (first | rw [c38b0] | (simp only [i64_w, i32_w]; rw [c38b0]) | skip)
                                  by_cases c39 : t254 = t252
                                  · rw [if_pos c39] at H
                                    have c39b0 : (t254 == t252) = true := beq_iff_eq.mpr c39
                                    have c39b1 : (t254 != t252) = false := bne_eq_false_iff_eq.mpr c39
                                    clear c39
                                    have H' := Aside0.mk H
                                    clear H
                                    go_wp2_with (first | ((with_reducible refine gate_callee (f := 12) rfl ?_); refine goesL_ (some 98) rfl rfl Try.func12 (by kernel_rfl) rfl #[.int .i64 t246, .int .i64 t250] rfl (by (try simp only [List.map_toArray, List.map_cons, List.map_nil]); first | done | rfl | (simp only [List.length_drop, List.length_take]; rfl)) ?_; (with_reducible refine (fixed_Add.calls t246 t250 t254 t255 _ A37.out).mono ?_); rintro e w40 ⟨rfl, hb⟩; refine ⟨_, rfl, ?_⟩; have n0_ := Aside0.mk (below_step (by repeat (first | (with_reducible first | exact HB.out | apply below_alloc | apply pw_below_drewN | apply below_drew1) | exact HB.out)) hb); clear HB; have HB := n0_; clear n0_; (try clear hb); (try clear hb2); (try clear hk); (try clear hi)))
                                    go_meet
                                    case rel => exact ⟨_, H', ⟨by have := HJ3.out; have := HK2.out; have := HJ19.out; have := HJ31.out; first | omega | exact Nat.le_refl _⟩, ⟨by repeat (first | (with_reducible first | exact HB.out | apply below_alloc | apply pw_below_drewN | apply below_drew1) | exact HB.out)⟩⟩
                                  · rw [if_neg c39] at H
                                    have c39b0 : (t254 == t252) = false := beq_eq_false_iff_ne.mpr c39
                                    have c39b1 : (t254 != t252) = true := bne_iff_ne.mpr c39
                                    obtain rfl := Option.some.inj H
                                    go_wp2_with (first | ((with_reducible refine gate_callee (f := 12) rfl ?_); refine goesL_ (some 98) rfl rfl Try.func12 (by kernel_rfl) rfl #[.int .i64 t246, .int .i64 t250] rfl (by (try simp only [List.map_toArray, List.map_cons, List.map_nil]); first | done | rfl | (simp only [List.length_drop, List.length_take]; rfl)) ?_; (with_reducible refine (fixed_Add.calls t246 t250 t254 t255 _ A37.out).mono ?_); rintro e w41 ⟨rfl, hb⟩; refine ⟨_, rfl, ?_⟩; have n0_ := Aside0.mk (below_step (by repeat (first | (with_reducible first | exact HB.out | apply below_alloc | apply pw_below_drewN | apply below_drew1) | exact HB.out)) hb); clear HB; have HB := n0_; clear n0_; (try clear hb); (try clear hb2); (try clear hk); (try clear hi)))
                                    go_ret
                                    exact ⟨by first | rfl | (simp [errW_none, errW_some] <;> rfl) | (simp [*, errW_none, errW_some] <;> rfl), by repeat (first | (with_reducible first | exact HB.out | apply below_alloc | apply pw_below_drewN | apply below_drew1) | exact HB.out)⟩
                                · rw [if_neg c38] at H
                                  have c38b0 : (t255 == 0) = false := beq_eq_false_iff_ne.mpr c38
                                  have c38b1 : (t255 != 0) = true := bne_iff_ne.mpr c38
                                  (first | rw [c38b0] | (simp only [i64_w, i32_w]; rw [c38b0]) | skip)
                                  obtain rfl := Option.some.inj H
                                  go_wp2_with (first | ((with_reducible refine gate_callee (f := 12) rfl ?_); refine goesL_ (some 98) rfl rfl Try.func12 (by kernel_rfl) rfl #[.int .i64 t246, .int .i64 t250] rfl (by (try simp only [List.map_toArray, List.map_cons, List.map_nil]); first | done | rfl | (simp only [List.length_drop, List.length_take]; rfl)) ?_; (with_reducible refine (fixed_Add.calls t246 t250 t254 t255 _ A37.out).mono ?_); rintro e w42 ⟨rfl, hb⟩; refine ⟨_, rfl, ?_⟩; have n0_ := Aside0.mk (below_step (by repeat (first | (with_reducible first | exact HB.out | apply below_alloc | apply pw_below_drewN | apply below_drew1) | exact HB.out)) hb); clear HB; have HB := n0_; clear n0_; (try clear hb); (try clear hb2); (try clear hk); (try clear hi)))
                                  go_ret
                                  exact ⟨by first | rfl | (simp [errW_none, errW_some] <;> rfl) | (simp [*, errW_none, errW_some] <;> rfl), by repeat (first | (with_reducible first | exact HB.out | apply below_alloc | apply pw_below_drewN | apply below_drew1) | exact HB.out)⟩
                              · replace c36 := Bool.eq_false_iff.mpr c36
                                subst c36
                                have H1 : (vinculumlaw01_FixedSums.j4 kj31 l0 a2 t246 t247) = some r := by rw [if_neg (show ¬ (false = true) by decide)] at H; exact H
                                clear H
                                have H := H1
                                clear H1
                                have H' := Aside0.mk H
                                clear H
                                go_wp2
                                go_meet
                                case rel => exact ⟨_, H', ⟨by have := HJ3.out; have := HK2.out; have := HJ19.out; have := HJ31.out; first | omega | exact Nat.le_refl _⟩, ⟨by repeat (first | (with_reducible first | exact HB.out | apply below_alloc | apply pw_below_drewN | apply below_drew1) | exact HB.out)⟩⟩
                            case rest =>
                              clear HC35
                              try clear c1
                              try clear c2
                              try clear p2
                              try clear q2
                              try clear hx2
                              try clear c3
                              try clear c6
                              try clear p6
                              try clear c8
                              try clear c9
                              try clear c9b0
                              try clear c10
                              try clear c10b0
                              try clear c11
                              try clear c11b0
                              try clear c12
                              try clear c14
                              try clear c15
                              try clear p23
                              try clear q23
                              try clear hx23
                              try clear c29
                              try clear c29b0
                              try clear c29b1
                              try clear c30
                              try clear c30b0
                              try clear c30b1
                              try clear c31
                              try clear c33
                              try clear c33b0
                              try clear c33b1
                              try clear c34
                              try clear c34b0
                              try clear c34b1
                              try clear c36
                              try clear c38
                              try clear c38b0
                              try clear c38b1
                              try clear c39
                              try clear c39b0
                              try clear c39b1
                              try clear hx236_0
                              try clear p2
                              try clear p23
                              try clear p236
                              try clear p6
                              try clear q2
                              try clear q23
                              try clear q236
                              obtain ⟨kq, HA, HJ34, HB⟩ := hcut
                              cases kq with
                              | zero => exact absurd HA.out (by simp [vinculumlaw01_FixedSums.j4])
                              | succ kj34 =>
                                have H := HA.out
                                clear HA
                                simp only [vinculumlaw01_FixedSums.j4] at H
                                have HC43 := Aside0.mk H
                                clear H
                                go_upto_region 21 with (fail)
                                go_cut [118] (fun v118 wc => ∃ (kq : Nat) (x118_42 : Bool), v118 = .bool x118_42 ∧ Aside0 (vinculumlaw01_FixedSums.j5 kq l0 a2 t246 t247 x118_42 = some r) ∧ Aside0 (kq ≤ kj34) ∧ Aside0 (Below w.heap.size w wc))
                                case first =>
                                  have H := HC43.out
                                  clear HC43
                                  by_cases c44 : a2 < 0
                                  · rw [if_pos c44] at H
                                    have c44b0 : decide (a2 < 0) = true := decide_eq_true c44
                                    clear c44
                                    (first | rw [c44b0] | (simp only [i64_w, i32_w]; rw [c44b0]) | skip)
                                    have H' := Aside0.mk H
                                    clear H
                                    go_wp2
                                    go_meet
                                    case rel => exact ⟨_, (true), (by first | rfl | (simp; done) | (simp [*]; done)), H', ⟨by have := HJ3.out; have := HK2.out; have := HJ19.out; have := HJ31.out; have := HJ34.out; first | omega | exact Nat.le_refl _⟩, ⟨by repeat (first | (with_reducible first | exact HB.out | apply below_alloc | apply pw_below_drewN | apply below_drew1) | exact HB.out)⟩⟩
                                  · rw [if_neg c44] at H
                                    have c44b0 : decide (a2 < 0) = false := decide_eq_false c44
                                    clear c44
                                    (first | rw [c44b0] | (simp only [i64_w, i32_w]; rw [c44b0]) | skip)
                                    by_cases c45 : a2 > 20
                                    · rw [if_pos c45] at H
                                      have c45b0 : decide (20 < a2) = true := decide_eq_true c45
                                      clear c45
                                      have H' := Aside0.mk H
                                      clear H
                                      go_wp2
                                      go_meet
                                      case rel => exact ⟨_, (true), (by first | rfl | (simp; done) | (simp [*]; done)), H', ⟨by have := HJ3.out; have := HK2.out; have := HJ19.out; have := HJ31.out; have := HJ34.out; first | omega | exact Nat.le_refl _⟩, ⟨by repeat (first | (with_reducible first | exact HB.out | apply below_alloc | apply pw_below_drewN | apply below_drew1) | exact HB.out)⟩⟩
                                    · rw [if_neg c45] at H
                                      have c45b0 : decide (20 < a2) = false := decide_eq_false c45
                                      clear c45
                                      have H' := Aside0.mk H
                                      clear H
                                      go_wp2
                                      go_meet
                                      case rel => exact ⟨_, (((l0.length : Int) == 0)), (by first | rfl | (simp; done) | (simp [*]; done)), H', ⟨by have := HJ3.out; have := HK2.out; have := HJ19.out; have := HJ31.out; have := HJ34.out; first | omega | exact Nat.le_refl _⟩, ⟨by repeat (first | (with_reducible first | exact HB.out | apply below_alloc | apply pw_below_drewN | apply below_drew1) | exact HB.out)⟩⟩
                                case rest =>
                                  clear HC43
                                  try clear c1
                                  try clear c2
                                  try clear p2
                                  try clear q2
                                  try clear hx2
                                  try clear c3
                                  try clear c4
                                  try clear c6
                                  try clear p6
                                  try clear c8
                                  try clear c9
                                  try clear c9b0
                                  try clear c10
                                  try clear c10b0
                                  try clear c11
                                  try clear c11b0
                                  try clear c12
                                  try clear c14
                                  try clear c15
                                  try clear p23
                                  try clear q23
                                  try clear hx23
                                  try clear c29
                                  try clear c29b0
                                  try clear c29b1
                                  try clear c30
                                  try clear c30b0
                                  try clear c30b1
                                  try clear c31
                                  try clear c33
                                  try clear c33b0
                                  try clear c33b1
                                  try clear c34
                                  try clear c34b0
                                  try clear c34b1
                                  try clear c36
                                  try clear c38
                                  try clear c38b0
                                  try clear c38b1
                                  try clear c39
                                  try clear c39b0
                                  try clear c39b1
                                  try clear c44
                                  try clear c44b0
                                  try clear c45
                                  try clear c45b0
                                  try clear hx236_0
                                  try clear p2
                                  try clear p23
                                  try clear p236
                                  try clear p6
                                  try clear q2
                                  try clear q23
                                  try clear q236
                                  obtain ⟨kq, x118_42, rfl, HA, HJ42, HB⟩ := hcut
                                  cases kq with
                                  | zero => exact absurd HA.out (by simp [vinculumlaw01_FixedSums.j5])
                                  | succ kj42 =>
                                    have H := HA.out
                                    clear HA
                                    simp only [vinculumlaw01_FixedSums.j5] at H
                                    by_cases c46 : x118_42 = true
                                    · subst c46
                                      have H1 : ((vinculumlaw01_checked.f kj42).bind fun t256 => (if t256 = true then (if t247 = 0 then (some true) else (some (t246 == 0))) else (some false))) = some r := by rw [if_pos rfl] at H; exact H
                                      clear H
                                      have H := H1
                                      clear H1
                                      replace H := Option.bind_eq_some_iff.mp H
                                      obtain ⟨t256, A470, H⟩ := H
                                      replace H : (if t256 = true then (if t247 = 0 then (some true) else (some (t246 == 0))) else (some false)) = some r := H
                                      have A47 := Aside0.mk A470
                                      clear A470
                                      by_cases c48 : t256 = true
                                      · subst c48
                                        have H1 : (if t247 = 0 then (some true) else (some (t246 == 0))) = some r := by rw [if_pos rfl] at H; exact H
                                        clear H
                                        have H := H1
                                        clear H1
                                        by_cases c49 : t247 = 0
                                        · rw [if_pos c49] at H
                                          have c49b0 : (t247 == 0) = true := beq_iff_eq.mpr c49
                                          have c49b1 : (t247 != 0) = false := bne_eq_false_iff_eq.mpr c49
                                          clear c49
                                          obtain rfl := Option.some.inj H
                                          go_wp2_with (first | ((with_reducible refine gate_callee (f := 10) rfl ?_); refine goesL_ (some 119) rfl rfl Try.func10 (by kernel_rfl) rfl #[] rfl (by (try simp only [List.map_toArray, List.map_cons, List.map_nil]); first | done | rfl | (simp only [List.length_drop, List.length_take]; rfl)) ?_; (with_reducible refine (vinculumlaw01_checked.calls kj42  true _ A47.out).mono ?_); rintro e w50 ⟨rfl, hb⟩; refine ⟨_, rfl, ?_⟩; have n0_ := Aside0.mk (below_step (by repeat (first | (with_reducible first | exact HB.out | apply below_alloc | apply pw_below_drewN | apply below_drew1) | exact HB.out)) hb); clear HB; have HB := n0_; clear n0_; (try clear hb); (try clear hb2); (try clear hk); (try clear hi)))
                                          go_ret
                                          exact ⟨by first | rfl | (simp [errW_none, errW_some] <;> rfl) | (simp [*, errW_none, errW_some] <;> rfl), by repeat (first | (with_reducible first | exact HB.out | apply below_alloc | apply pw_below_drewN | apply below_drew1) | exact HB.out)⟩
                                        · rw [if_neg c49] at H
                                          have c49b0 : (t247 == 0) = false := beq_eq_false_iff_ne.mpr c49
                                          have c49b1 : (t247 != 0) = true := bne_iff_ne.mpr c49
                                          obtain rfl := Option.some.inj H
                                          go_wp2_with (first | ((with_reducible refine gate_callee (f := 10) rfl ?_); refine goesL_ (some 119) rfl rfl Try.func10 (by kernel_rfl) rfl #[] rfl (by (try simp only [List.map_toArray, List.map_cons, List.map_nil]); first | done | rfl | (simp only [List.length_drop, List.length_take]; rfl)) ?_; (with_reducible refine (vinculumlaw01_checked.calls kj42  true _ A47.out).mono ?_); rintro e w51 ⟨rfl, hb⟩; refine ⟨_, rfl, ?_⟩; have n0_ := Aside0.mk (below_step (by repeat (first | (with_reducible first | exact HB.out | apply below_alloc | apply pw_below_drewN | apply below_drew1) | exact HB.out)) hb); clear HB; have HB := n0_; clear n0_; (try clear hb); (try clear hb2); (try clear hk); (try clear hi)))
                                          go_ret
                                          exact ⟨by first | rfl | (simp [errW_none, errW_some] <;> rfl) | (simp [*, errW_none, errW_some] <;> rfl), by repeat (first | (with_reducible first | exact HB.out | apply below_alloc | apply pw_below_drewN | apply below_drew1) | exact HB.out)⟩
                                      · replace c48 := Bool.eq_false_iff.mpr c48
                                        subst c48
                                        have H1 : (some false) = some r := by rw [if_neg (show ¬ (false = true) by decide)] at H; exact H
                                        clear H
                                        have H := H1
                                        clear H1
                                        obtain rfl := Option.some.inj H
                                        go_wp2_with (first | ((with_reducible refine gate_callee (f := 10) rfl ?_); refine goesL_ (some 119) rfl rfl Try.func10 (by kernel_rfl) rfl #[] rfl (by (try simp only [List.map_toArray, List.map_cons, List.map_nil]); first | done | rfl | (simp only [List.length_drop, List.length_take]; rfl)) ?_; (with_reducible refine (vinculumlaw01_checked.calls kj42  false _ A47.out).mono ?_); rintro e w52 ⟨rfl, hb⟩; refine ⟨_, rfl, ?_⟩; have n0_ := Aside0.mk (below_step (by repeat (first | (with_reducible first | exact HB.out | apply below_alloc | apply pw_below_drewN | apply below_drew1) | exact HB.out)) hb); clear HB; have HB := n0_; clear n0_; (try clear hb); (try clear hb2); (try clear hk); (try clear hi)))
                                        go_ret
                                        exact ⟨by first | rfl | (simp [errW_none, errW_some] <;> rfl) | (simp [*, errW_none, errW_some] <;> rfl), by repeat (first | (with_reducible first | exact HB.out | apply below_alloc | apply pw_below_drewN | apply below_drew1) | exact HB.out)⟩
                                    · replace c46 := Bool.eq_false_iff.mpr c46
                                      subst c46
                                      have H1 : (vinculumlaw01_FixedSums.l1 kj42 l0 a2 ([] : List Int) 0) = some r := by rw [if_neg (show ¬ (false = true) by decide)] at H; exact H
                                      clear H
                                      have H := H1
                                      clear H1
                                      have H' := Aside0.mk H
                                      clear H
                                      go_wp2
                                      go_loopg [20, 21] kj42 (fun kq v20 v21 w' => ∃ (x20_7 : List Int) (x21_7 : Int), v21 = .int .i64 x21_7 ∧ Aside0 (vinculumlaw01_FixedSums.l1 kq l0 a2 x20_7 x21_7 = some r) ∧ Aside0 (kq ≤ kj42) ∧ Aside0 (Kd.R (Kd.int .i64) 3 w' w.heap.size (fun _ => True) v20 x20_7) ∧ Aside0 (Below w.heap.size w w'))
                                      case atStart => exact ⟨(([] : List Int)), (0), (by first | rfl | (simp; done) | (simp [*]; done)), H', ⟨Nat.le_refl _⟩, ⟨by first | exact Kd.R_nil _ _ _ _ _ | exact Kd.N_nil _ _ _ _ _ | exact Kd.V_nil _ _ _ _ _ | exact Kd.Q_nil _ _ _ _ _ | exact Kd.S_nil _ _ _ _ _⟩, ⟨by repeat (first | (with_reducible first | exact HB.out | apply below_alloc | apply pw_below_drewN | apply below_drew1) | exact HB.out)⟩⟩
                                      case round =>
                                        clear H'
                                        try clear c1
                                        try clear c2
                                        try clear p2
                                        try clear q2
                                        try clear hx2
                                        try clear c3
                                        try clear c4
                                        try clear c6
                                        try clear p6
                                        try clear c8
                                        try clear c9
                                        try clear c9b0
                                        try clear c10
                                        try clear c10b0
                                        try clear c11
                                        try clear c11b0
                                        try clear c12
                                        try clear c14
                                        try clear c15
                                        try clear p23
                                        try clear q23
                                        try clear hx23
                                        try clear c29
                                        try clear c29b0
                                        try clear c29b1
                                        try clear c30
                                        try clear c30b0
                                        try clear c30b1
                                        try clear c31
                                        try clear c33
                                        try clear c33b0
                                        try clear c33b1
                                        try clear c34
                                        try clear c34b0
                                        try clear c34b1
                                        try clear c36
                                        try clear c38
                                        try clear c38b0
                                        try clear c38b1
                                        try clear c39
                                        try clear c39b0
                                        try clear c39b1
                                        try clear c44
                                        try clear c44b0
                                        try clear c45
                                        try clear c45b0
                                        try clear c46
                                        try clear c48
                                        try clear c49
                                        try clear c49b0
                                        try clear c49b1
                                        try clear hx236_0
                                        try clear p2
                                        try clear p23
                                        try clear p236
                                        try clear p6
                                        try clear q2
                                        try clear q23
                                        try clear q236
                                        obtain ⟨x20_7, x21_7, rfl, HA, HK7, HO_20, HB⟩ := hrel
                                        cases gk with
                                        | zero => exact absurd HA.out (by simp [vinculumlaw01_FixedSums.l1])
                                        | succ k7 =>
                                          have H := HA.out
                                          clear HA
                                          simp only [vinculumlaw01_FixedSums.l1] at H
                                          by_cases c53 : x21_7 < a2
                                          · rw [if_pos c53] at H
                                            have c53b0 : decide (x21_7 < a2) = true := decide_eq_true c53
                                            clear c53
                                            by_cases c54 : 0 < (l0.length : Int)
                                            · rw [if_pos c54] at H
                                              have c54b0 : decide (0 < (l0.length : Int)) = true := decide_eq_true c54
                                              have c54b1 : decide (0 < l0.length) = true := decide_eq_true (by omega)
                                              clear c54
                                              by_cases c55 : x20_7.length < 17592186044416
                                              · rw [if_pos c55] at H
                                                have LMc55 := Aside0.mk c55
                                                clear c55
                                                obtain ⟨y258, hy258⟩ : ∃ y_ : List Int, y_ = (x20_7 ++ [rd l0 0]) := ⟨_, rfl⟩
                                                replace H : (vinculumlaw01_FixedSums.l1 k7 l0 a2 y258 (wrap64 (x21_7 + 1))) = some r := by first | (rw [hy258]; with_reducible exact H) | (have H2_ := (Option.bind_some _ _).symm.trans H; rw [hy258]; with_reducible exact H2_) | (have H2_ := (Option.bind_some _ _).symm.trans H; with_reducible exact H2_) | with_reducible exact H | (rw [hy258]; exact H) | exact H
                                                have Ny258 := Aside0.mk hy258
                                                clear hy258
                                                have H' := Aside0.mk H
                                                clear H
                                                have p257 : 0 ≤ (0 : Int) := (by omega)
                                                have q257 : 0 < (l0.length : Int) := of_decide_eq_true (by first | (with_reducible assumption) | assumption)
                                                obtain ⟨ad257, e257, hx257_0⟩ := Kd.at_int HR0.out 0 p257 q257
                                                cases e257
                                                have qi257 : (0 < l0.length) = True := eq_true (by omega)
                                                (try rw [show ((0 : Int)).toNat = 0 from rfl] at hx257_0)
                                                (try rw [Addr.add_zero'] at hx257_0)
                                                replace hx257_0 := (HB.out.cell (World.block_lt_of_cell? w _ hx257_0)).trans hx257_0
                                                replace p257 := eq_true p257
                                                replace q257 := eq_true q257
                                                go_wp2_with (first | ((with_reducible refine gate_builtin (b := .append) (xs := #[.tmp 133, .tmp 137]) rfl ?_); (try (refine gate_guard (by rfl) ?_; dsimp only)); at_builtin; refine Kd.R_append (Kd.int .i64) (w0 := w) w.heap.size rfl (.tmp 133) (.tmp 137) 32 3 (.int .i64 0) 8 rfl Try.underlying32 info3 rfl (by decide) (by omega) u20 x20_7 (rd l0 0) [.int .i64 (rd l0 0)] (fun _ => True) (fun _ => False) rfl rfl ?aP (fun _ hk => hk.elim) ?aF ?aO ?aB ?aS ?aL ?_; (case aP => exact rfl); (case aB => exact (by repeat (first | (with_reducible first | exact HB.out | apply below_alloc | apply pw_below_drewN | apply below_drew1) | exact HB.out))); (case aF => exact (fun _ _ => trivial)); (case aO => exact (by (with_reducible repeat (first | apply Kd.R_alloc | apply Kd.R_drewN | apply Kd.R_drew)); exact HO_20.out)); (case aS => exact (below_size (by repeat (first | (with_reducible first | exact HB.out | apply below_alloc | apply pw_below_drewN | apply below_drew1) | exact HB.out)))); (case aL => have := LMc55.out; omega); intro v259 w56 ho hb hg hat; rw [← Ny258.out] at ho; have n0_ := Aside0.mk (hb); have n1_ := Aside0.mk (ho); clear HB; clear HO_20; have HB := n0_; have HO260 := n1_; clear n0_ n1_; clear ho hb hg hat))
                                                go_roundg k7
                                                case measure => have := HJ3.out; have := HK2.out; have := HJ19.out; have := HJ31.out; have := HJ34.out; have := HJ42.out; have := HK7.out; omega
                                                case rel => exact ⟨(y258), (wrap64 (x21_7 + 1)), (by first | rfl | (simp; done) | (simp [*]; done)), H', ⟨by have := HJ3.out; have := HK2.out; have := HJ19.out; have := HJ31.out; have := HJ34.out; have := HJ42.out; have := HK7.out; omega⟩, ⟨by (with_reducible repeat (first | apply Kd.R_alloc | apply Kd.R_drewN | apply Kd.R_drew)); exact HO260.out⟩, ⟨by repeat (first | (with_reducible first | exact HB.out | apply below_alloc | apply pw_below_drewN | apply below_drew1) | exact HB.out)⟩⟩
                                              · rw [if_neg c55] at H
                                                exact absurd H (by simp)
                                            · rw [if_neg c54] at H
                                              exact absurd H (by simp)
                                          · rw [if_neg c53] at H
                                            have c53b0 : decide (x21_7 < a2) = false := decide_eq_false c53
                                            clear c53
                                            replace H := Option.bind_eq_some_iff.mp H
                                            obtain ⟨⟨t261, t262⟩, A570, H⟩ := H
                                            replace H : (if 0 < (l0.length : Int) then ((fixed_Times.f (rd l0 0) a2).bind fun bt264 => ((vinculumlaw01_checked.f k7).bind fun t266 => (if t266 = true then (if a2 = 0 then (if t262 = 0 then (if bt264.2 = 0 then (some (t261 == bt264.1)) else (some true)) else (some true)) else (if t262 = bt264.2 then (if t262 = 0 then (if bt264.2 = 0 then (some (t261 == bt264.1)) else (some true)) else (some true)) else (some false))) else (some false)))) else (none)) = some r := H
                                            have A57 := Aside0.mk A570
                                            clear A570
                                            by_cases c58 : 0 < (l0.length : Int)
                                            · rw [if_pos c58] at H
                                              have c58b0 : decide (0 < (l0.length : Int)) = true := decide_eq_true c58
                                              have c58b1 : decide (0 < l0.length) = true := decide_eq_true (by omega)
                                              clear c58
                                              replace H := Option.bind_eq_some_iff.mp H
                                              obtain ⟨⟨t264, t265⟩, A590, H⟩ := H
                                              replace H : ((vinculumlaw01_checked.f k7).bind fun t266 => (if t266 = true then (if a2 = 0 then (if t262 = 0 then (if t265 = 0 then (some (t261 == t264)) else (some true)) else (some true)) else (if t262 = t265 then (if t262 = 0 then (if t265 = 0 then (some (t261 == t264)) else (some true)) else (some true)) else (some false))) else (some false))) = some r := H
                                              have A59 := Aside0.mk A590
                                              clear A590
                                              replace H := Option.bind_eq_some_iff.mp H
                                              obtain ⟨t266, A600, H⟩ := H
                                              replace H : (if t266 = true then (if a2 = 0 then (if t262 = 0 then (if t265 = 0 then (some (t261 == t264)) else (some true)) else (some true)) else (if t262 = t265 then (if t262 = 0 then (if t265 = 0 then (some (t261 == t264)) else (some true)) else (some true)) else (some false))) else (some false)) = some r := H
                                              have A60 := Aside0.mk A600
                                              clear A600
                                              by_cases c61 : t266 = true
                                              · subst c61
                                                have H1 : (if a2 = 0 then (if t262 = 0 then (if t265 = 0 then (some (t261 == t264)) else (some true)) else (some true)) else (if t262 = t265 then (if t262 = 0 then (if t265 = 0 then (some (t261 == t264)) else (some true)) else (some true)) else (some false))) = some r := by rw [if_pos rfl] at H; exact H
                                                clear H
                                                have H := H1
                                                clear H1
                                                by_cases c62 : a2 = 0
                                                · rw [if_pos c62] at H
                                                  have c62b0 : (a2 == 0) = true := beq_iff_eq.mpr c62
                                                  have c62b1 : (a2 != 0) = false := bne_eq_false_iff_eq.mpr c62
                                                  clear c62
                                                  by_cases c63 : t262 = 0
                                                  · rw [if_pos c63] at H
                                                    have c63b0 : (t262 == 0) = true := beq_iff_eq.mpr c63
                                                    have c63b1 : (t262 != 0) = false := bne_eq_false_iff_eq.mpr c63
                                                    clear c63
                                                    by_cases c64 : t265 = 0
                                                    · rw [if_pos c64] at H
                                                      have c64b0 : (t265 == 0) = true := beq_iff_eq.mpr c64
                                                      have c64b1 : (t265 != 0) = false := bne_eq_false_iff_eq.mpr c64
                                                      clear c64
                                                      obtain rfl := Option.some.inj H
                                                      obtain ⟨Ao65, co65, eo65⟩ := Kd.R_slice HO_20.out
                                                      subst eo65
                                                      go_wp2_with (first | ((with_reducible refine gate_callee (f := 15) rfl ?_); refine goesL_ (some 141) rfl rfl Try.func15 (by kernel_rfl) rfl #[.slice Ao65 x20_7.length co65] rfl (by (try simp only [List.map_toArray, List.map_cons, List.map_nil]); first | done | rfl | (simp only [List.length_drop, List.length_take]; rfl)) ?_; (with_reducible refine (fixed_Sum.calls _ _ x20_7 t261 t262 _ ?side1 ?side2 A57.out).mono ?_); (case side1 => repeat (first | exact (Kd.R_reads' HO_20.out).2.2 | (with_reducible refine Kd.C_alloc ?_ _) | (with_reducible refine Kd.C_drewN ?_ _) | (with_reducible refine Kd.C_drew ?_))); (case side2 => exact (Kd.R_reads' HO_20.out).2.1); rintro e w66 ⟨rfl, hb⟩; refine ⟨_, rfl, ?_⟩; have n0_ := Aside0.mk (Kd.R_below (by (with_reducible repeat (first | apply Kd.R_alloc | apply Kd.R_drewN | apply Kd.R_drew)); exact HO_20.out) hb); have n1_ := Aside0.mk (below_step (by repeat (first | (with_reducible first | exact HB.out | apply below_alloc | apply pw_below_drewN | apply below_drew1) | exact HB.out)) hb); clear HO_20; clear HB; have HO_20 := n0_; have HB := n1_; clear n0_ n1_; (try clear hb); (try clear hb2); (try clear hk); (try clear hi); have p263 : 0 ≤ (0 : Int) := (by omega); have q263 : 0 < (l0.length : Int) := of_decide_eq_true (by first | (with_reducible assumption) | assumption); obtain ⟨ad263, e263, hx263_0⟩ := Kd.at_int HR0.out 0 p263 q263; cases e263; have qi263 : (0 < l0.length) = True := eq_true (by omega); (try rw [show ((0 : Int)).toNat = 0 from rfl] at hx263_0); (try rw [Addr.add_zero'] at hx263_0); replace hx263_0 := (HB.out.cell (World.block_lt_of_cell? w _ hx263_0)).trans hx263_0; replace p263 := eq_true p263; replace q263 := eq_true q263) | ((with_reducible refine gate_callee (f := 18) rfl ?_); refine goesL_ (some 149) rfl rfl Try.func18 (by kernel_rfl) rfl #[.int .i64 (rd l0 0), .int .i64 a2] rfl (by (try simp only [List.map_toArray, List.map_cons, List.map_nil]); first | done | rfl | (simp only [List.length_drop, List.length_take]; rfl)) ?_; (with_reducible refine (fixed_Times.calls (rd l0 0) a2 t264 t265 _ A59.out).mono ?_); rintro e w67 ⟨rfl, hb⟩; refine ⟨_, rfl, ?_⟩; have n0_ := Aside0.mk (Kd.R_below (by (with_reducible repeat (first | apply Kd.R_alloc | apply Kd.R_drewN | apply Kd.R_drew)); exact HO_20.out) hb); have n1_ := Aside0.mk (below_step (by repeat (first | (with_reducible first | exact HB.out | apply below_alloc | apply pw_below_drewN | apply below_drew1) | exact HB.out)) hb); clear HO_20; clear HB; have HO_20 := n0_; have HB := n1_; clear n0_ n1_; (try clear hb); (try clear hb2); (try clear hk); (try clear hi)) | ((with_reducible refine gate_callee (f := 10) rfl ?_); refine goesL_ (some 152) rfl rfl Try.func10 (by kernel_rfl) rfl #[] rfl (by (try simp only [List.map_toArray, List.map_cons, List.map_nil]); first | done | rfl | (simp only [List.length_drop, List.length_take]; rfl)) ?_; (with_reducible refine (vinculumlaw01_checked.calls k7  true _ A60.out).mono ?_); rintro e w68 ⟨rfl, hb⟩; refine ⟨_, rfl, ?_⟩; have n0_ := Aside0.mk (Kd.R_below (by (with_reducible repeat (first | apply Kd.R_alloc | apply Kd.R_drewN | apply Kd.R_drew)); exact HO_20.out) hb); have n1_ := Aside0.mk (below_step (by repeat (first | (with_reducible first | exact HB.out | apply below_alloc | apply pw_below_drewN | apply below_drew1) | exact HB.out)) hb); clear HO_20; clear HB; have HO_20 := n0_; have HB := n1_; clear n0_ n1_; (try clear hb); (try clear hb2); (try clear hk); (try clear hi)))
                                                      go_ret
                                                      exact ⟨by first | rfl | (simp [errW_none, errW_some] <;> rfl) | (simp [*, errW_none, errW_some] <;> rfl), by repeat (first | (with_reducible first | exact HB.out | apply below_alloc | apply pw_below_drewN | apply below_drew1) | exact HB.out)⟩
                                                    · rw [if_neg c64] at H
                                                      have c64b0 : (t265 == 0) = false := beq_eq_false_iff_ne.mpr c64
                                                      have c64b1 : (t265 != 0) = true := bne_iff_ne.mpr c64
                                                      obtain rfl := Option.some.inj H
                                                      obtain ⟨Ao69, co69, eo69⟩ := Kd.R_slice HO_20.out
                                                      subst eo69
                                                      go_wp2_with (first | ((with_reducible refine gate_callee (f := 15) rfl ?_); refine goesL_ (some 141) rfl rfl Try.func15 (by kernel_rfl) rfl #[.slice Ao69 x20_7.length co69] rfl (by (try simp only [List.map_toArray, List.map_cons, List.map_nil]); first | done | rfl | (simp only [List.length_drop, List.length_take]; rfl)) ?_; (with_reducible refine (fixed_Sum.calls _ _ x20_7 t261 t262 _ ?side1 ?side2 A57.out).mono ?_); (case side1 => repeat (first | exact (Kd.R_reads' HO_20.out).2.2 | (with_reducible refine Kd.C_alloc ?_ _) | (with_reducible refine Kd.C_drewN ?_ _) | (with_reducible refine Kd.C_drew ?_))); (case side2 => exact (Kd.R_reads' HO_20.out).2.1); rintro e w70 ⟨rfl, hb⟩; refine ⟨_, rfl, ?_⟩; have n0_ := Aside0.mk (Kd.R_below (by (with_reducible repeat (first | apply Kd.R_alloc | apply Kd.R_drewN | apply Kd.R_drew)); exact HO_20.out) hb); have n1_ := Aside0.mk (below_step (by repeat (first | (with_reducible first | exact HB.out | apply below_alloc | apply pw_below_drewN | apply below_drew1) | exact HB.out)) hb); clear HO_20; clear HB; have HO_20 := n0_; have HB := n1_; clear n0_ n1_; (try clear hb); (try clear hb2); (try clear hk); (try clear hi); have p263 : 0 ≤ (0 : Int) := (by omega); have q263 : 0 < (l0.length : Int) := of_decide_eq_true (by first | (with_reducible assumption) | assumption); obtain ⟨ad263, e263, hx263_0⟩ := Kd.at_int HR0.out 0 p263 q263; cases e263; have qi263 : (0 < l0.length) = True := eq_true (by omega); (try rw [show ((0 : Int)).toNat = 0 from rfl] at hx263_0); (try rw [Addr.add_zero'] at hx263_0); replace hx263_0 := (HB.out.cell (World.block_lt_of_cell? w _ hx263_0)).trans hx263_0; replace p263 := eq_true p263; replace q263 := eq_true q263) | ((with_reducible refine gate_callee (f := 18) rfl ?_); refine goesL_ (some 149) rfl rfl Try.func18 (by kernel_rfl) rfl #[.int .i64 (rd l0 0), .int .i64 a2] rfl (by (try simp only [List.map_toArray, List.map_cons, List.map_nil]); first | done | rfl | (simp only [List.length_drop, List.length_take]; rfl)) ?_; (with_reducible refine (fixed_Times.calls (rd l0 0) a2 t264 t265 _ A59.out).mono ?_); rintro e w71 ⟨rfl, hb⟩; refine ⟨_, rfl, ?_⟩; have n0_ := Aside0.mk (Kd.R_below (by (with_reducible repeat (first | apply Kd.R_alloc | apply Kd.R_drewN | apply Kd.R_drew)); exact HO_20.out) hb); have n1_ := Aside0.mk (below_step (by repeat (first | (with_reducible first | exact HB.out | apply below_alloc | apply pw_below_drewN | apply below_drew1) | exact HB.out)) hb); clear HO_20; clear HB; have HO_20 := n0_; have HB := n1_; clear n0_ n1_; (try clear hb); (try clear hb2); (try clear hk); (try clear hi)) | ((with_reducible refine gate_callee (f := 10) rfl ?_); refine goesL_ (some 152) rfl rfl Try.func10 (by kernel_rfl) rfl #[] rfl (by (try simp only [List.map_toArray, List.map_cons, List.map_nil]); first | done | rfl | (simp only [List.length_drop, List.length_take]; rfl)) ?_; (with_reducible refine (vinculumlaw01_checked.calls k7  true _ A60.out).mono ?_); rintro e w72 ⟨rfl, hb⟩; refine ⟨_, rfl, ?_⟩; have n0_ := Aside0.mk (Kd.R_below (by (with_reducible repeat (first | apply Kd.R_alloc | apply Kd.R_drewN | apply Kd.R_drew)); exact HO_20.out) hb); have n1_ := Aside0.mk (below_step (by repeat (first | (with_reducible first | exact HB.out | apply below_alloc | apply pw_below_drewN | apply below_drew1) | exact HB.out)) hb); clear HO_20; clear HB; have HO_20 := n0_; have HB := n1_; clear n0_ n1_; (try clear hb); (try clear hb2); (try clear hk); (try clear hi)))
                                                      go_ret
                                                      exact ⟨by first | rfl | (simp [errW_none, errW_some] <;> rfl) | (simp [*, errW_none, errW_some] <;> rfl), by repeat (first | (with_reducible first | exact HB.out | apply below_alloc | apply pw_below_drewN | apply below_drew1) | exact HB.out)⟩
                                                  · rw [if_neg c63] at H
                                                    have c63b0 : (t262 == 0) = false := beq_eq_false_iff_ne.mpr c63
                                                    have c63b1 : (t262 != 0) = true := bne_iff_ne.mpr c63
                                                    obtain rfl := Option.some.inj H
                                                    obtain ⟨Ao73, co73, eo73⟩ := Kd.R_slice HO_20.out
                                                    subst eo73
                                                    go_wp2_with (first | ((with_reducible refine gate_callee (f := 15) rfl ?_); refine goesL_ (some 141) rfl rfl Try.func15 (by kernel_rfl) rfl #[.slice Ao73 x20_7.length co73] rfl (by (try simp only [List.map_toArray, List.map_cons, List.map_nil]); first | done | rfl | (simp only [List.length_drop, List.length_take]; rfl)) ?_; (with_reducible refine (fixed_Sum.calls _ _ x20_7 t261 t262 _ ?side1 ?side2 A57.out).mono ?_); (case side1 => repeat (first | exact (Kd.R_reads' HO_20.out).2.2 | (with_reducible refine Kd.C_alloc ?_ _) | (with_reducible refine Kd.C_drewN ?_ _) | (with_reducible refine Kd.C_drew ?_))); (case side2 => exact (Kd.R_reads' HO_20.out).2.1); rintro e w74 ⟨rfl, hb⟩; refine ⟨_, rfl, ?_⟩; have n0_ := Aside0.mk (Kd.R_below (by (with_reducible repeat (first | apply Kd.R_alloc | apply Kd.R_drewN | apply Kd.R_drew)); exact HO_20.out) hb); have n1_ := Aside0.mk (below_step (by repeat (first | (with_reducible first | exact HB.out | apply below_alloc | apply pw_below_drewN | apply below_drew1) | exact HB.out)) hb); clear HO_20; clear HB; have HO_20 := n0_; have HB := n1_; clear n0_ n1_; (try clear hb); (try clear hb2); (try clear hk); (try clear hi); have p263 : 0 ≤ (0 : Int) := (by omega); have q263 : 0 < (l0.length : Int) := of_decide_eq_true (by first | (with_reducible assumption) | assumption); obtain ⟨ad263, e263, hx263_0⟩ := Kd.at_int HR0.out 0 p263 q263; cases e263; have qi263 : (0 < l0.length) = True := eq_true (by omega); (try rw [show ((0 : Int)).toNat = 0 from rfl] at hx263_0); (try rw [Addr.add_zero'] at hx263_0); replace hx263_0 := (HB.out.cell (World.block_lt_of_cell? w _ hx263_0)).trans hx263_0; replace p263 := eq_true p263; replace q263 := eq_true q263) | ((with_reducible refine gate_callee (f := 18) rfl ?_); refine goesL_ (some 149) rfl rfl Try.func18 (by kernel_rfl) rfl #[.int .i64 (rd l0 0), .int .i64 a2] rfl (by (try simp only [List.map_toArray, List.map_cons, List.map_nil]); first | done | rfl | (simp only [List.length_drop, List.length_take]; rfl)) ?_; (with_reducible refine (fixed_Times.calls (rd l0 0) a2 t264 t265 _ A59.out).mono ?_); rintro e w75 ⟨rfl, hb⟩; refine ⟨_, rfl, ?_⟩; have n0_ := Aside0.mk (Kd.R_below (by (with_reducible repeat (first | apply Kd.R_alloc | apply Kd.R_drewN | apply Kd.R_drew)); exact HO_20.out) hb); have n1_ := Aside0.mk (below_step (by repeat (first | (with_reducible first | exact HB.out | apply below_alloc | apply pw_below_drewN | apply below_drew1) | exact HB.out)) hb); clear HO_20; clear HB; have HO_20 := n0_; have HB := n1_; clear n0_ n1_; (try clear hb); (try clear hb2); (try clear hk); (try clear hi)) | ((with_reducible refine gate_callee (f := 10) rfl ?_); refine goesL_ (some 152) rfl rfl Try.func10 (by kernel_rfl) rfl #[] rfl (by (try simp only [List.map_toArray, List.map_cons, List.map_nil]); first | done | rfl | (simp only [List.length_drop, List.length_take]; rfl)) ?_; (with_reducible refine (vinculumlaw01_checked.calls k7  true _ A60.out).mono ?_); rintro e w76 ⟨rfl, hb⟩; refine ⟨_, rfl, ?_⟩; have n0_ := Aside0.mk (Kd.R_below (by (with_reducible repeat (first | apply Kd.R_alloc | apply Kd.R_drewN | apply Kd.R_drew)); exact HO_20.out) hb); have n1_ := Aside0.mk (below_step (by repeat (first | (with_reducible first | exact HB.out | apply below_alloc | apply pw_below_drewN | apply below_drew1) | exact HB.out)) hb); clear HO_20; clear HB; have HO_20 := n0_; have HB := n1_; clear n0_ n1_; (try clear hb); (try clear hb2); (try clear hk); (try clear hi)))
                                                    go_ret
                                                    exact ⟨by first | rfl | (simp [errW_none, errW_some] <;> rfl) | (simp [*, errW_none, errW_some] <;> rfl), by repeat (first | (with_reducible first | exact HB.out | apply below_alloc | apply pw_below_drewN | apply below_drew1) | exact HB.out)⟩
                                                · rw [if_neg c62] at H
                                                  have c62b0 : (a2 == 0) = false := beq_eq_false_iff_ne.mpr c62
                                                  have c62b1 : (a2 != 0) = true := bne_iff_ne.mpr c62
                                                  by_cases c77 : t262 = t265
                                                  · rw [if_pos c77] at H
                                                    have c77b0 : (t262 == t265) = true := beq_iff_eq.mpr c77
                                                    have c77b1 : (t262 != t265) = false := bne_eq_false_iff_eq.mpr c77
                                                    clear c77
                                                    by_cases c78 : t262 = 0
                                                    · rw [if_pos c78] at H
                                                      have c78b0 : (t262 == 0) = true := beq_iff_eq.mpr c78
                                                      have c78b1 : (t262 != 0) = false := bne_eq_false_iff_eq.mpr c78
                                                      clear c78
                                                      by_cases c79 : t265 = 0
                                                      · rw [if_pos c79] at H
                                                        have c79b0 : (t265 == 0) = true := beq_iff_eq.mpr c79
                                                        have c79b1 : (t265 != 0) = false := bne_eq_false_iff_eq.mpr c79
                                                        clear c79
                                                        obtain rfl := Option.some.inj H
                                                        obtain ⟨Ao80, co80, eo80⟩ := Kd.R_slice HO_20.out
                                                        subst eo80
                                                        go_wp2_with (first | ((with_reducible refine gate_callee (f := 15) rfl ?_); refine goesL_ (some 141) rfl rfl Try.func15 (by kernel_rfl) rfl #[.slice Ao80 x20_7.length co80] rfl (by (try simp only [List.map_toArray, List.map_cons, List.map_nil]); first | done | rfl | (simp only [List.length_drop, List.length_take]; rfl)) ?_; (with_reducible refine (fixed_Sum.calls _ _ x20_7 t261 t262 _ ?side1 ?side2 A57.out).mono ?_); (case side1 => repeat (first | exact (Kd.R_reads' HO_20.out).2.2 | (with_reducible refine Kd.C_alloc ?_ _) | (with_reducible refine Kd.C_drewN ?_ _) | (with_reducible refine Kd.C_drew ?_))); (case side2 => exact (Kd.R_reads' HO_20.out).2.1); rintro e w81 ⟨rfl, hb⟩; refine ⟨_, rfl, ?_⟩; have n0_ := Aside0.mk (Kd.R_below (by (with_reducible repeat (first | apply Kd.R_alloc | apply Kd.R_drewN | apply Kd.R_drew)); exact HO_20.out) hb); have n1_ := Aside0.mk (below_step (by repeat (first | (with_reducible first | exact HB.out | apply below_alloc | apply pw_below_drewN | apply below_drew1) | exact HB.out)) hb); clear HO_20; clear HB; have HO_20 := n0_; have HB := n1_; clear n0_ n1_; (try clear hb); (try clear hb2); (try clear hk); (try clear hi); have p263 : 0 ≤ (0 : Int) := (by omega); have q263 : 0 < (l0.length : Int) := of_decide_eq_true (by first | (with_reducible assumption) | assumption); obtain ⟨ad263, e263, hx263_0⟩ := Kd.at_int HR0.out 0 p263 q263; cases e263; have qi263 : (0 < l0.length) = True := eq_true (by omega); (try rw [show ((0 : Int)).toNat = 0 from rfl] at hx263_0); (try rw [Addr.add_zero'] at hx263_0); replace hx263_0 := (HB.out.cell (World.block_lt_of_cell? w _ hx263_0)).trans hx263_0; replace p263 := eq_true p263; replace q263 := eq_true q263) | ((with_reducible refine gate_callee (f := 18) rfl ?_); refine goesL_ (some 149) rfl rfl Try.func18 (by kernel_rfl) rfl #[.int .i64 (rd l0 0), .int .i64 a2] rfl (by (try simp only [List.map_toArray, List.map_cons, List.map_nil]); first | done | rfl | (simp only [List.length_drop, List.length_take]; rfl)) ?_; (with_reducible refine (fixed_Times.calls (rd l0 0) a2 t264 t265 _ A59.out).mono ?_); rintro e w82 ⟨rfl, hb⟩; refine ⟨_, rfl, ?_⟩; have n0_ := Aside0.mk (Kd.R_below (by (with_reducible repeat (first | apply Kd.R_alloc | apply Kd.R_drewN | apply Kd.R_drew)); exact HO_20.out) hb); have n1_ := Aside0.mk (below_step (by repeat (first | (with_reducible first | exact HB.out | apply below_alloc | apply pw_below_drewN | apply below_drew1) | exact HB.out)) hb); clear HO_20; clear HB; have HO_20 := n0_; have HB := n1_; clear n0_ n1_; (try clear hb); (try clear hb2); (try clear hk); (try clear hi)) | ((with_reducible refine gate_callee (f := 10) rfl ?_); refine goesL_ (some 152) rfl rfl Try.func10 (by kernel_rfl) rfl #[] rfl (by (try simp only [List.map_toArray, List.map_cons, List.map_nil]); first | done | rfl | (simp only [List.length_drop, List.length_take]; rfl)) ?_; (with_reducible refine (vinculumlaw01_checked.calls k7  true _ A60.out).mono ?_); rintro e w83 ⟨rfl, hb⟩; refine ⟨_, rfl, ?_⟩; have n0_ := Aside0.mk (Kd.R_below (by (with_reducible repeat (first | apply Kd.R_alloc | apply Kd.R_drewN | apply Kd.R_drew)); exact HO_20.out) hb); have n1_ := Aside0.mk (below_step (by repeat (first | (with_reducible first | exact HB.out | apply below_alloc | apply pw_below_drewN | apply below_drew1) | exact HB.out)) hb); clear HO_20; clear HB; have HO_20 := n0_; have HB := n1_; clear n0_ n1_; (try clear hb); (try clear hb2); (try clear hk); (try clear hi)))
                                                        go_ret
                                                        exact ⟨by first | rfl | (simp [errW_none, errW_some] <;> rfl) | (simp [*, errW_none, errW_some] <;> rfl), by repeat (first | (with_reducible first | exact HB.out | apply below_alloc | apply pw_below_drewN | apply below_drew1) | exact HB.out)⟩
                                                      · rw [if_neg c79] at H
                                                        have c79b0 : (t265 == 0) = false := beq_eq_false_iff_ne.mpr c79
                                                        have c79b1 : (t265 != 0) = true := bne_iff_ne.mpr c79
                                                        obtain rfl := Option.some.inj H
                                                        obtain ⟨Ao84, co84, eo84⟩ := Kd.R_slice HO_20.out
                                                        subst eo84
                                                        go_wp2_with (first | ((with_reducible refine gate_callee (f := 15) rfl ?_); refine goesL_ (some 141) rfl rfl Try.func15 (by kernel_rfl) rfl #[.slice Ao84 x20_7.length co84] rfl (by (try simp only [List.map_toArray, List.map_cons, List.map_nil]); first | done | rfl | (simp only [List.length_drop, List.length_take]; rfl)) ?_; (with_reducible refine (fixed_Sum.calls _ _ x20_7 t261 t262 _ ?side1 ?side2 A57.out).mono ?_); (case side1 => repeat (first | exact (Kd.R_reads' HO_20.out).2.2 | (with_reducible refine Kd.C_alloc ?_ _) | (with_reducible refine Kd.C_drewN ?_ _) | (with_reducible refine Kd.C_drew ?_))); (case side2 => exact (Kd.R_reads' HO_20.out).2.1); rintro e w85 ⟨rfl, hb⟩; refine ⟨_, rfl, ?_⟩; have n0_ := Aside0.mk (Kd.R_below (by (with_reducible repeat (first | apply Kd.R_alloc | apply Kd.R_drewN | apply Kd.R_drew)); exact HO_20.out) hb); have n1_ := Aside0.mk (below_step (by repeat (first | (with_reducible first | exact HB.out | apply below_alloc | apply pw_below_drewN | apply below_drew1) | exact HB.out)) hb); clear HO_20; clear HB; have HO_20 := n0_; have HB := n1_; clear n0_ n1_; (try clear hb); (try clear hb2); (try clear hk); (try clear hi); have p263 : 0 ≤ (0 : Int) := (by omega); have q263 : 0 < (l0.length : Int) := of_decide_eq_true (by first | (with_reducible assumption) | assumption); obtain ⟨ad263, e263, hx263_0⟩ := Kd.at_int HR0.out 0 p263 q263; cases e263; have qi263 : (0 < l0.length) = True := eq_true (by omega); (try rw [show ((0 : Int)).toNat = 0 from rfl] at hx263_0); (try rw [Addr.add_zero'] at hx263_0); replace hx263_0 := (HB.out.cell (World.block_lt_of_cell? w _ hx263_0)).trans hx263_0; replace p263 := eq_true p263; replace q263 := eq_true q263) | ((with_reducible refine gate_callee (f := 18) rfl ?_); refine goesL_ (some 149) rfl rfl Try.func18 (by kernel_rfl) rfl #[.int .i64 (rd l0 0), .int .i64 a2] rfl (by (try simp only [List.map_toArray, List.map_cons, List.map_nil]); first | done | rfl | (simp only [List.length_drop, List.length_take]; rfl)) ?_; (with_reducible refine (fixed_Times.calls (rd l0 0) a2 t264 t265 _ A59.out).mono ?_); rintro e w86 ⟨rfl, hb⟩; refine ⟨_, rfl, ?_⟩; have n0_ := Aside0.mk (Kd.R_below (by (with_reducible repeat (first | apply Kd.R_alloc | apply Kd.R_drewN | apply Kd.R_drew)); exact HO_20.out) hb); have n1_ := Aside0.mk (below_step (by repeat (first | (with_reducible first | exact HB.out | apply below_alloc | apply pw_below_drewN | apply below_drew1) | exact HB.out)) hb); clear HO_20; clear HB; have HO_20 := n0_; have HB := n1_; clear n0_ n1_; (try clear hb); (try clear hb2); (try clear hk); (try clear hi)) | ((with_reducible refine gate_callee (f := 10) rfl ?_); refine goesL_ (some 152) rfl rfl Try.func10 (by kernel_rfl) rfl #[] rfl (by (try simp only [List.map_toArray, List.map_cons, List.map_nil]); first | done | rfl | (simp only [List.length_drop, List.length_take]; rfl)) ?_; (with_reducible refine (vinculumlaw01_checked.calls k7  true _ A60.out).mono ?_); rintro e w87 ⟨rfl, hb⟩; refine ⟨_, rfl, ?_⟩; have n0_ := Aside0.mk (Kd.R_below (by (with_reducible repeat (first | apply Kd.R_alloc | apply Kd.R_drewN | apply Kd.R_drew)); exact HO_20.out) hb); have n1_ := Aside0.mk (below_step (by repeat (first | (with_reducible first | exact HB.out | apply below_alloc | apply pw_below_drewN | apply below_drew1) | exact HB.out)) hb); clear HO_20; clear HB; have HO_20 := n0_; have HB := n1_; clear n0_ n1_; (try clear hb); (try clear hb2); (try clear hk); (try clear hi)))
                                                        go_ret
                                                        exact ⟨by first | rfl | (simp [errW_none, errW_some] <;> rfl) | (simp [*, errW_none, errW_some] <;> rfl), by repeat (first | (with_reducible first | exact HB.out | apply below_alloc | apply pw_below_drewN | apply below_drew1) | exact HB.out)⟩
                                                    · rw [if_neg c78] at H
                                                      have c78b0 : (t262 == 0) = false := beq_eq_false_iff_ne.mpr c78
                                                      have c78b1 : (t262 != 0) = true := bne_iff_ne.mpr c78
                                                      obtain rfl := Option.some.inj H
                                                      obtain ⟨Ao88, co88, eo88⟩ := Kd.R_slice HO_20.out
                                                      subst eo88
                                                      go_wp2_with (first | ((with_reducible refine gate_callee (f := 15) rfl ?_); refine goesL_ (some 141) rfl rfl Try.func15 (by kernel_rfl) rfl #[.slice Ao88 x20_7.length co88] rfl (by (try simp only [List.map_toArray, List.map_cons, List.map_nil]); first | done | rfl | (simp only [List.length_drop, List.length_take]; rfl)) ?_; (with_reducible refine (fixed_Sum.calls _ _ x20_7 t261 t262 _ ?side1 ?side2 A57.out).mono ?_); (case side1 => repeat (first | exact (Kd.R_reads' HO_20.out).2.2 | (with_reducible refine Kd.C_alloc ?_ _) | (with_reducible refine Kd.C_drewN ?_ _) | (with_reducible refine Kd.C_drew ?_))); (case side2 => exact (Kd.R_reads' HO_20.out).2.1); rintro e w89 ⟨rfl, hb⟩; refine ⟨_, rfl, ?_⟩; have n0_ := Aside0.mk (Kd.R_below (by (with_reducible repeat (first | apply Kd.R_alloc | apply Kd.R_drewN | apply Kd.R_drew)); exact HO_20.out) hb); have n1_ := Aside0.mk (below_step (by repeat (first | (with_reducible first | exact HB.out | apply below_alloc | apply pw_below_drewN | apply below_drew1) | exact HB.out)) hb); clear HO_20; clear HB; have HO_20 := n0_; have HB := n1_; clear n0_ n1_; (try clear hb); (try clear hb2); (try clear hk); (try clear hi); have p263 : 0 ≤ (0 : Int) := (by omega); have q263 : 0 < (l0.length : Int) := of_decide_eq_true (by first | (with_reducible assumption) | assumption); obtain ⟨ad263, e263, hx263_0⟩ := Kd.at_int HR0.out 0 p263 q263; cases e263; have qi263 : (0 < l0.length) = True := eq_true (by omega); (try rw [show ((0 : Int)).toNat = 0 from rfl] at hx263_0); (try rw [Addr.add_zero'] at hx263_0); replace hx263_0 := (HB.out.cell (World.block_lt_of_cell? w _ hx263_0)).trans hx263_0; replace p263 := eq_true p263; replace q263 := eq_true q263) | ((with_reducible refine gate_callee (f := 18) rfl ?_); refine goesL_ (some 149) rfl rfl Try.func18 (by kernel_rfl) rfl #[.int .i64 (rd l0 0), .int .i64 a2] rfl (by (try simp only [List.map_toArray, List.map_cons, List.map_nil]); first | done | rfl | (simp only [List.length_drop, List.length_take]; rfl)) ?_; (with_reducible refine (fixed_Times.calls (rd l0 0) a2 t264 t265 _ A59.out).mono ?_); rintro e w90 ⟨rfl, hb⟩; refine ⟨_, rfl, ?_⟩; have n0_ := Aside0.mk (Kd.R_below (by (with_reducible repeat (first | apply Kd.R_alloc | apply Kd.R_drewN | apply Kd.R_drew)); exact HO_20.out) hb); have n1_ := Aside0.mk (below_step (by repeat (first | (with_reducible first | exact HB.out | apply below_alloc | apply pw_below_drewN | apply below_drew1) | exact HB.out)) hb); clear HO_20; clear HB; have HO_20 := n0_; have HB := n1_; clear n0_ n1_; (try clear hb); (try clear hb2); (try clear hk); (try clear hi)) | ((with_reducible refine gate_callee (f := 10) rfl ?_); refine goesL_ (some 152) rfl rfl Try.func10 (by kernel_rfl) rfl #[] rfl (by (try simp only [List.map_toArray, List.map_cons, List.map_nil]); first | done | rfl | (simp only [List.length_drop, List.length_take]; rfl)) ?_; (with_reducible refine (vinculumlaw01_checked.calls k7  true _ A60.out).mono ?_); rintro e w91 ⟨rfl, hb⟩; refine ⟨_, rfl, ?_⟩; have n0_ := Aside0.mk (Kd.R_below (by (with_reducible repeat (first | apply Kd.R_alloc | apply Kd.R_drewN | apply Kd.R_drew)); exact HO_20.out) hb); have n1_ := Aside0.mk (below_step (by repeat (first | (with_reducible first | exact HB.out | apply below_alloc | apply pw_below_drewN | apply below_drew1) | exact HB.out)) hb); clear HO_20; clear HB; have HO_20 := n0_; have HB := n1_; clear n0_ n1_; (try clear hb); (try clear hb2); (try clear hk); (try clear hi)))
                                                      go_ret
                                                      exact ⟨by first | rfl | (simp [errW_none, errW_some] <;> rfl) | (simp [*, errW_none, errW_some] <;> rfl), by repeat (first | (with_reducible first | exact HB.out | apply below_alloc | apply pw_below_drewN | apply below_drew1) | exact HB.out)⟩
                                                  · rw [if_neg c77] at H
                                                    have c77b0 : (t262 == t265) = false := beq_eq_false_iff_ne.mpr c77
                                                    have c77b1 : (t262 != t265) = true := bne_iff_ne.mpr c77
                                                    obtain rfl := Option.some.inj H
                                                    obtain ⟨Ao92, co92, eo92⟩ := Kd.R_slice HO_20.out
                                                    subst eo92
                                                    go_wp2_with (first | ((with_reducible refine gate_callee (f := 15) rfl ?_); refine goesL_ (some 141) rfl rfl Try.func15 (by kernel_rfl) rfl #[.slice Ao92 x20_7.length co92] rfl (by (try simp only [List.map_toArray, List.map_cons, List.map_nil]); first | done | rfl | (simp only [List.length_drop, List.length_take]; rfl)) ?_; (with_reducible refine (fixed_Sum.calls _ _ x20_7 t261 t262 _ ?side1 ?side2 A57.out).mono ?_); (case side1 => repeat (first | exact (Kd.R_reads' HO_20.out).2.2 | (with_reducible refine Kd.C_alloc ?_ _) | (with_reducible refine Kd.C_drewN ?_ _) | (with_reducible refine Kd.C_drew ?_))); (case side2 => exact (Kd.R_reads' HO_20.out).2.1); rintro e w93 ⟨rfl, hb⟩; refine ⟨_, rfl, ?_⟩; have n0_ := Aside0.mk (Kd.R_below (by (with_reducible repeat (first | apply Kd.R_alloc | apply Kd.R_drewN | apply Kd.R_drew)); exact HO_20.out) hb); have n1_ := Aside0.mk (below_step (by repeat (first | (with_reducible first | exact HB.out | apply below_alloc | apply pw_below_drewN | apply below_drew1) | exact HB.out)) hb); clear HO_20; clear HB; have HO_20 := n0_; have HB := n1_; clear n0_ n1_; (try clear hb); (try clear hb2); (try clear hk); (try clear hi); have p263 : 0 ≤ (0 : Int) := (by omega); have q263 : 0 < (l0.length : Int) := of_decide_eq_true (by first | (with_reducible assumption) | assumption); obtain ⟨ad263, e263, hx263_0⟩ := Kd.at_int HR0.out 0 p263 q263; cases e263; have qi263 : (0 < l0.length) = True := eq_true (by omega); (try rw [show ((0 : Int)).toNat = 0 from rfl] at hx263_0); (try rw [Addr.add_zero'] at hx263_0); replace hx263_0 := (HB.out.cell (World.block_lt_of_cell? w _ hx263_0)).trans hx263_0; replace p263 := eq_true p263; replace q263 := eq_true q263) | ((with_reducible refine gate_callee (f := 18) rfl ?_); refine goesL_ (some 149) rfl rfl Try.func18 (by kernel_rfl) rfl #[.int .i64 (rd l0 0), .int .i64 a2] rfl (by (try simp only [List.map_toArray, List.map_cons, List.map_nil]); first | done | rfl | (simp only [List.length_drop, List.length_take]; rfl)) ?_; (with_reducible refine (fixed_Times.calls (rd l0 0) a2 t264 t265 _ A59.out).mono ?_); rintro e w94 ⟨rfl, hb⟩; refine ⟨_, rfl, ?_⟩; have n0_ := Aside0.mk (Kd.R_below (by (with_reducible repeat (first | apply Kd.R_alloc | apply Kd.R_drewN | apply Kd.R_drew)); exact HO_20.out) hb); have n1_ := Aside0.mk (below_step (by repeat (first | (with_reducible first | exact HB.out | apply below_alloc | apply pw_below_drewN | apply below_drew1) | exact HB.out)) hb); clear HO_20; clear HB; have HO_20 := n0_; have HB := n1_; clear n0_ n1_; (try clear hb); (try clear hb2); (try clear hk); (try clear hi)) | ((with_reducible refine gate_callee (f := 10) rfl ?_); refine goesL_ (some 152) rfl rfl Try.func10 (by kernel_rfl) rfl #[] rfl (by (try simp only [List.map_toArray, List.map_cons, List.map_nil]); first | done | rfl | (simp only [List.length_drop, List.length_take]; rfl)) ?_; (with_reducible refine (vinculumlaw01_checked.calls k7  true _ A60.out).mono ?_); rintro e w95 ⟨rfl, hb⟩; refine ⟨_, rfl, ?_⟩; have n0_ := Aside0.mk (Kd.R_below (by (with_reducible repeat (first | apply Kd.R_alloc | apply Kd.R_drewN | apply Kd.R_drew)); exact HO_20.out) hb); have n1_ := Aside0.mk (below_step (by repeat (first | (with_reducible first | exact HB.out | apply below_alloc | apply pw_below_drewN | apply below_drew1) | exact HB.out)) hb); clear HO_20; clear HB; have HO_20 := n0_; have HB := n1_; clear n0_ n1_; (try clear hb); (try clear hb2); (try clear hk); (try clear hi)))
                                                    go_ret
                                                    exact ⟨by first | rfl | (simp [errW_none, errW_some] <;> rfl) | (simp [*, errW_none, errW_some] <;> rfl), by repeat (first | (with_reducible first | exact HB.out | apply below_alloc | apply pw_below_drewN | apply below_drew1) | exact HB.out)⟩
                                              · replace c61 := Bool.eq_false_iff.mpr c61
                                                subst c61
                                                have H1 : (some false) = some r := by rw [if_neg (show ¬ (false = true) by decide)] at H; exact H
                                                clear H
                                                have H := H1
                                                clear H1
                                                obtain rfl := Option.some.inj H
                                                obtain ⟨Ao96, co96, eo96⟩ := Kd.R_slice HO_20.out
                                                subst eo96
                                                go_wp2_with (first | ((with_reducible refine gate_callee (f := 15) rfl ?_); refine goesL_ (some 141) rfl rfl Try.func15 (by kernel_rfl) rfl #[.slice Ao96 x20_7.length co96] rfl (by (try simp only [List.map_toArray, List.map_cons, List.map_nil]); first | done | rfl | (simp only [List.length_drop, List.length_take]; rfl)) ?_; (with_reducible refine (fixed_Sum.calls _ _ x20_7 t261 t262 _ ?side1 ?side2 A57.out).mono ?_); (case side1 => repeat (first | exact (Kd.R_reads' HO_20.out).2.2 | (with_reducible refine Kd.C_alloc ?_ _) | (with_reducible refine Kd.C_drewN ?_ _) | (with_reducible refine Kd.C_drew ?_))); (case side2 => exact (Kd.R_reads' HO_20.out).2.1); rintro e w97 ⟨rfl, hb⟩; refine ⟨_, rfl, ?_⟩; have n0_ := Aside0.mk (Kd.R_below (by (with_reducible repeat (first | apply Kd.R_alloc | apply Kd.R_drewN | apply Kd.R_drew)); exact HO_20.out) hb); have n1_ := Aside0.mk (below_step (by repeat (first | (with_reducible first | exact HB.out | apply below_alloc | apply pw_below_drewN | apply below_drew1) | exact HB.out)) hb); clear HO_20; clear HB; have HO_20 := n0_; have HB := n1_; clear n0_ n1_; (try clear hb); (try clear hb2); (try clear hk); (try clear hi); have p263 : 0 ≤ (0 : Int) := (by omega); have q263 : 0 < (l0.length : Int) := of_decide_eq_true (by first | (with_reducible assumption) | assumption); obtain ⟨ad263, e263, hx263_0⟩ := Kd.at_int HR0.out 0 p263 q263; cases e263; have qi263 : (0 < l0.length) = True := eq_true (by omega); (try rw [show ((0 : Int)).toNat = 0 from rfl] at hx263_0); (try rw [Addr.add_zero'] at hx263_0); replace hx263_0 := (HB.out.cell (World.block_lt_of_cell? w _ hx263_0)).trans hx263_0; replace p263 := eq_true p263; replace q263 := eq_true q263) | ((with_reducible refine gate_callee (f := 18) rfl ?_); refine goesL_ (some 149) rfl rfl Try.func18 (by kernel_rfl) rfl #[.int .i64 (rd l0 0), .int .i64 a2] rfl (by (try simp only [List.map_toArray, List.map_cons, List.map_nil]); first | done | rfl | (simp only [List.length_drop, List.length_take]; rfl)) ?_; (with_reducible refine (fixed_Times.calls (rd l0 0) a2 t264 t265 _ A59.out).mono ?_); rintro e w98 ⟨rfl, hb⟩; refine ⟨_, rfl, ?_⟩; have n0_ := Aside0.mk (Kd.R_below (by (with_reducible repeat (first | apply Kd.R_alloc | apply Kd.R_drewN | apply Kd.R_drew)); exact HO_20.out) hb); have n1_ := Aside0.mk (below_step (by repeat (first | (with_reducible first | exact HB.out | apply below_alloc | apply pw_below_drewN | apply below_drew1) | exact HB.out)) hb); clear HO_20; clear HB; have HO_20 := n0_; have HB := n1_; clear n0_ n1_; (try clear hb); (try clear hb2); (try clear hk); (try clear hi)) | ((with_reducible refine gate_callee (f := 10) rfl ?_); refine goesL_ (some 152) rfl rfl Try.func10 (by kernel_rfl) rfl #[] rfl (by (try simp only [List.map_toArray, List.map_cons, List.map_nil]); first | done | rfl | (simp only [List.length_drop, List.length_take]; rfl)) ?_; (with_reducible refine (vinculumlaw01_checked.calls k7  false _ A60.out).mono ?_); rintro e w99 ⟨rfl, hb⟩; refine ⟨_, rfl, ?_⟩; have n0_ := Aside0.mk (Kd.R_below (by (with_reducible repeat (first | apply Kd.R_alloc | apply Kd.R_drewN | apply Kd.R_drew)); exact HO_20.out) hb); have n1_ := Aside0.mk (below_step (by repeat (first | (with_reducible first | exact HB.out | apply below_alloc | apply pw_below_drewN | apply below_drew1) | exact HB.out)) hb); clear HO_20; clear HB; have HO_20 := n0_; have HB := n1_; clear n0_ n1_; (try clear hb); (try clear hb2); (try clear hk); (try clear hi)))
                                                go_ret
                                                exact ⟨by first | rfl | (simp [errW_none, errW_some] <;> rfl) | (simp [*, errW_none, errW_some] <;> rfl), by repeat (first | (with_reducible first | exact HB.out | apply below_alloc | apply pw_below_drewN | apply below_drew1) | exact HB.out)⟩
                                            · rw [if_neg c58] at H
                                              exact absurd H (by simp)
                · rw [if_neg c15] at H
                  exact absurd H (by simp)
              · rw [if_neg c14] at H
                exact absurd H (by simp)

/-- THE ONE PURE STATEMENT of vinculumlaw01_FixedSums: yours. -/
def vinculumlaw01_FixedSums.Pure : Prop := ∀ (l0 : List Int) (l1 : List Int) (a2 : Int), l0.length ≤ maxLen → l0.length * 8 ≤ 140737488351232 → (∀ x ∈ l0, (Lit.int .i64 x).wf = true) → l1.length ≤ maxLen → l1.length * 8 ≤ 140737488351232 → (∀ x ∈ l1, (Lit.int .i64 x).wf = true) → (Lit.int .i64 a2).wf = true → ∃ k, vinculumlaw01_FixedSums.f k l0 l1 a2 = some true
theorem vinculumlaw01_FixedSums.walk (P : vinculumlaw01_FixedSums.Pure) (a0 : Option Addr) (len0 cap0 : Nat) (z0 : List Int) (a1 : Option Addr) (len1 cap1 : Nat) (z1 : List Int) (a2 : Int) (w : World) (w0 : (a0 = none ∧ len0 = 0 ∧ cap0 = 0 ∧ z0 = []) ∨ ∃ x, a0 = some x ∧ len0 ≤ cap0 ∧ cap0 ≤ maxLen ∧ z0.length = cap0 ∧ (∀ i, i < z0.length → w.cell? (x.add i) = some (.int .i64 (z0.getD i 0))) ∧ ∀ n ∈ z0, (Lit.int .i64 n).wf = true) (y0 : len0 * 8 ≤ 140737488351232) (w1 : (a1 = none ∧ len1 = 0 ∧ cap1 = 0 ∧ z1 = []) ∨ ∃ x, a1 = some x ∧ len1 ≤ cap1 ∧ cap1 ≤ maxLen ∧ z1.length = cap1 ∧ (∀ i, i < z1.length → w.cell? (x.add i) = some (.int .i64 (z1.getD i 0))) ∧ ∀ n ∈ z1, (Lit.int .i64 n).wf = true) (y1 : len1 * 8 ≤ 140737488351232) (w2 : (Lit.int .i64 a2).wf = true) :
    Calls Try.prog 8 #[.slice a0 len0 cap0, .slice a1 len1 cap1, .int .i64 a2] w fun e w' => e = .returned (.bool true) ∧ Below w.heap.size w w' := by
  obtain ⟨l0, rfl, hr0, hm0, hw0, hc0⟩ := ReadsInt.ofRowC w0
  obtain ⟨l1, rfl, hr1, hm1, hw1, hc1⟩ := ReadsInt.ofRowC w1
  obtain ⟨k, h⟩ := P l0 l1 a2 hm0 y0 hw0 hm1 y1 hw1 w2
  refine (vinculumlaw01_FixedSums.calls k _ _ l0 _ _ l1 a2 true w (Kd.C_of_reads (d := (0 : Int)) (h1 := fun _ => rfl) hr0) hc0 (Kd.C_of_reads (d := (0 : Int)) (h1 := fun _ => rfl) hr1) hc1 h).mono ?_
  rintro e w' ⟨rfl, hd⟩
  exact ⟨rfl, hd⟩

end Go.Proofs.Ytlfahjjmpkpngaa.P
