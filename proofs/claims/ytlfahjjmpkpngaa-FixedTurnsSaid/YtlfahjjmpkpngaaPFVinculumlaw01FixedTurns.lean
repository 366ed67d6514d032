/- Written for this claim by a program of this session out of the print of the loaded functions; Lean checks it. -/
import Derived.Test.YtlfahjjmpkpngaaP0
import Derived.Test.YtlfahjjmpkpngaaPFFixedIs
import Derived.Test.YtlfahjjmpkpngaaPFVinculumlaw01Checked
import Derived.Test.YtlfahjjmpkpngaaEFixed
namespace Go.Proofs.Ytlfahjjmpkpngaa.P
open Go.RowKit Go.Proofs.YtlfahjjmpkpngaaW.PrintWords Go.Proofs.YtlfahjjmpkpngaaW.PrintLast Go.Proofs.YtlfahjjmpkpngaaW.PrintMore
attribute [local go_sem] max2_int min2_int max_two min_two max_three min_three max_four min_four   -- for this text's walks alone
set_option linter.unusedVariables false
set_option linter.unusedSimpArgs false

/-! ### vinculumlaw01_FixedTurns: function 4 -/
def vinculumlaw01_FixedTurns.j0 : Nat → Int → Int → Int → Bool → Option (Bool)
  | 0, _, _, _, _ => none
  | k + 1, x0, x2, x10, x96 => if x96 = true then (some false) else (if x2 = 0 then ((vinculumlaw01_checked.f k).bind fun t147 => (if t147 = true then (some (x10 == 1)) else (some false))) else ((fixed_MulDiv.f x0 x2 x2).bind fun bt148 => ((vinculumlaw01_checked.f k).bind fun t150 => (if t150 = true then (if bt148.2 = 0 then (some (bt148.1 == x0)) else (some false)) else (some false)))))
def vinculumlaw01_FixedTurns.f (k : Nat) (a0 : Int) (a1 : Int) (a2 : Int) : Option (Bool) := (fixed_Is.f k (([a0, a1, a2] : List Int))).bind fun t135 => (if t135 = true then ((fixed_MulDiv.f a0 a1 a2).bind fun bt139 => ((fixed_MulDiv.f a1 a0 a2).bind fun bt141 => ((fixed_MulDiv.f (wrap64 (-a0)) a1 (wrap64 (-a2))).bind fun bt143 => ((fixed_MulDiv.f (wrap64 (-a0)) a1 a2).bind fun bt145 => (if bt139.1 = bt141.1 then (if bt139.2 = bt141.2 then (if bt139.1 = bt143.1 then (if bt139.2 = bt143.2 then (if bt145.1 = (wrap64 (-bt139.1)) then (vinculumlaw01_FixedTurns.j0 k a0 a2 bt139.2 (bt145.2 != bt139.2)) else (vinculumlaw01_FixedTurns.j0 k a0 a2 bt139.2 true)) else (vinculumlaw01_FixedTurns.j0 k a0 a2 bt139.2 true)) else (vinculumlaw01_FixedTurns.j0 k a0 a2 bt139.2 true)) else (vinculumlaw01_FixedTurns.j0 k a0 a2 bt139.2 true)) else (vinculumlaw01_FixedTurns.j0 k a0 a2 bt139.2 true)))))) else ((fixed_MulDiv.f a0 a1 a2).bind fun bt136 => ((vinculumlaw01_checked.f k).bind fun t138 => (if t138 = true then (some (bt136.2 == 1)) else (some false)))))
theorem vinculumlaw01_FixedTurns.mono_l : ∀ k, (∀ y0 y1 y2 y3, LeO (vinculumlaw01_FixedTurns.j0 k y0 y1 y2 y3) (vinculumlaw01_FixedTurns.j0 (k + 1) y0 y1 y2 y3))
  | 0 => fun _ _ _ _ r h => by simp [vinculumlaw01_FixedTurns.j0] at h
  | k + 1 => by
    have ih0 := vinculumlaw01_FixedTurns.mono_l k
    · intro y0 y1 y2 y3
      unfold vinculumlaw01_FixedTurns.j0
      repeat' first
      | (with_reducible exact ih0 _ _ _ _)
      | (with_reducible exact fixed_Is.mono _ _)
      | (with_reducible exact vinculumlaw01_checked.mono _)
      | (with_reducible exact LeO.refl _)
      | (with_reducible exact LeO.none _)
      | (with_reducible refine LeO.ite ?_ ?_)
      | (with_reducible refine LeO.bind ?_ (fun _ => ?_))
      | exact ih0 _ _ _ _
      | exact fixed_Is.mono _ _
      | exact vinculumlaw01_checked.mono _
      | exact LeO.none _
      | refine LeO.ite ?_ ?_
      | refine LeO.bind ?_ (fun _ => ?_)
theorem vinculumlaw01_FixedTurns.mono : ∀ a0 a1 a2 k, LeO (vinculumlaw01_FixedTurns.f k a0 a1 a2) (vinculumlaw01_FixedTurns.f (k + 1) a0 a1 a2) := by
  intro a0 a1 a2 k
  have ih0 := vinculumlaw01_FixedTurns.mono_l k
  unfold vinculumlaw01_FixedTurns.f
  repeat' first
      | (with_reducible exact ih0 _ _ _ _)
      | (with_reducible exact fixed_Is.mono _ _)
      | (with_reducible exact vinculumlaw01_checked.mono _)
      | (with_reducible exact LeO.refl _)
      | (with_reducible exact LeO.none _)
      | (with_reducible refine LeO.ite ?_ ?_)
      | (with_reducible refine LeO.bind ?_ (fun _ => ?_))
      | exact ih0 _ _ _ _
      | exact fixed_Is.mono _ _
      | exact vinculumlaw01_checked.mono _
      | exact LeO.none _
      | refine LeO.ite ?_ ?_
      | refine LeO.bind ?_ (fun _ => ?_)
set_option maxHeartbeats 8000000 in
set_option maxRecDepth 100000 in
theorem vinculumlaw01_FixedTurns.calls (k : Nat) (a0 : Int) (a1 : Int) (a2 : Int) (r : Bool) (w : World) (h : vinculumlaw01_FixedTurns.f k a0 a1 a2 = some r) :
    Calls Try.prog 4 #[.int .i64 a0, .int .i64 a1, .int .i64 a2] w fun e w' => e = .returned (.bool r) ∧ Below w.heap.size w w' := by
  have HB := Aside0.mk (Below.refl w.heap.size w)
  have H : ((fixed_Is.f k (([a0, a1, a2] : List Int))).bind fun t135 => (if t135 = true then ((fixed_MulDiv.f a0 a1 a2).bind fun bt139 => ((fixed_MulDiv.f a1 a0 a2).bind fun bt141 => ((fixed_MulDiv.f (wrap64 (-a0)) a1 (wrap64 (-a2))).bind fun bt143 => ((fixed_MulDiv.f (wrap64 (-a0)) a1 a2).bind fun bt145 => (if bt139.1 = bt141.1 then (if bt139.2 = bt141.2 then (if bt139.1 = bt143.1 then (if bt139.2 = bt143.2 then (if bt145.1 = (wrap64 (-bt139.1)) then (vinculumlaw01_FixedTurns.j0 k a0 a2 bt139.2 (bt145.2 != bt139.2)) else (vinculumlaw01_FixedTurns.j0 k a0 a2 bt139.2 true)) else (vinculumlaw01_FixedTurns.j0 k a0 a2 bt139.2 true)) else (vinculumlaw01_FixedTurns.j0 k a0 a2 bt139.2 true)) else (vinculumlaw01_FixedTurns.j0 k a0 a2 bt139.2 true)) else (vinculumlaw01_FixedTurns.j0 k a0 a2 bt139.2 true)))))) else ((fixed_MulDiv.f a0 a1 a2).bind fun bt136 => ((vinculumlaw01_checked.f k).bind fun t138 => (if t138 = true then (some (bt136.2 == 1)) else (some false)))))) = some r := h
  clear h
  obtain ⟨y132, hy132⟩ : ∃ y_ : List Int, y_ = (([a0, a1, a2] : List Int)) := ⟨_, rfl⟩
  replace H : ((fixed_Is.f k y132).bind fun t135 => (if t135 = true then ((fixed_MulDiv.f a0 a1 a2).bind fun bt139 => ((fixed_MulDiv.f a1 a0 a2).bind fun bt141 => ((fixed_MulDiv.f (wrap64 (-a0)) a1 (wrap64 (-a2))).bind fun bt143 => ((fixed_MulDiv.f (wrap64 (-a0)) a1 a2).bind fun bt145 => (if bt139.1 = bt141.1 then (if bt139.2 = bt141.2 then (if bt139.1 = bt143.1 then (if bt139.2 = bt143.2 then (if bt145.1 = (wrap64 (-bt139.1)) then (vinculumlaw01_FixedTurns.j0 k a0 a2 bt139.2 (bt145.2 != bt139.2)) else (vinculumlaw01_FixedTurns.j0 k a0 a2 bt139.2 true)) else (vinculumlaw01_FixedTurns.j0 k a0 a2 bt139.2 true)) else (vinculumlaw01_FixedTurns.j0 k a0 a2 bt139.2 true)) else (vinculumlaw01_FixedTurns.j0 k a0 a2 bt139.2 true)) else (vinculumlaw01_FixedTurns.j0 k a0 a2 bt139.2 true)))))) else ((fixed_MulDiv.f a0 a1 a2).bind fun bt136 => ((vinculumlaw01_checked.f k).bind fun t138 => (if t138 = true then (some (bt136.2 == 1)) else (some false)))))) = some r := by first | (rw [hy132]; with_reducible exact H) | (have H2_ := (Option.bind_some _ _).symm.trans H; rw [hy132]; with_reducible exact H2_) | (have H2_ := (Option.bind_some _ _).symm.trans H; with_reducible exact H2_) | with_reducible exact H | (rw [hy132]; exact H) | exact H
  have Ny132 := Aside0.mk hy132
  clear hy132
  replace H := Option.bind_eq_some_iff.mp H
  obtain ⟨t135, A40, H⟩ := H
  replace H : (if t135 = true then ((fixed_MulDiv.f a0 a1 a2).bind fun bt139 => ((fixed_MulDiv.f a1 a0 a2).bind fun bt141 => ((fixed_MulDiv.f (wrap64 (-a0)) a1 (wrap64 (-a2))).bind fun bt143 => ((fixed_MulDiv.f (wrap64 (-a0)) a1 a2).bind fun bt145 => (if bt139.1 = bt141.1 then (if bt139.2 = bt141.2 then (if bt139.1 = bt143.1 then (if bt139.2 = bt143.2 then (if bt145.1 = (wrap64 (-bt139.1)) then (vinculumlaw01_FixedTurns.j0 k a0 a2 bt139.2 (bt145.2 != bt139.2)) else (vinculumlaw01_FixedTurns.j0 k a0 a2 bt139.2 true)) else (vinculumlaw01_FixedTurns.j0 k a0 a2 bt139.2 true)) else (vinculumlaw01_FixedTurns.j0 k a0 a2 bt139.2 true)) else (vinculumlaw01_FixedTurns.j0 k a0 a2 bt139.2 true)) else (vinculumlaw01_FixedTurns.j0 k a0 a2 bt139.2 true)))))) else ((fixed_MulDiv.f a0 a1 a2).bind fun bt136 => ((vinculumlaw01_checked.f k).bind fun t138 => (if t138 = true then (some (bt136.2 == 1)) else (some false))))) = some r := H
  have A4 := Aside0.mk A40
  clear A40
  by_cases c5 : t135 = true
  · subst c5
    have H1 : ((fixed_MulDiv.f a0 a1 a2).bind fun bt139 => ((fixed_MulDiv.f a1 a0 a2).bind fun bt141 => ((fixed_MulDiv.f (wrap64 (-a0)) a1 (wrap64 (-a2))).bind fun bt143 => ((fixed_MulDiv.f (wrap64 (-a0)) a1 a2).bind fun bt145 => (if bt139.1 = bt141.1 then (if bt139.2 = bt141.2 then (if bt139.1 = bt143.1 then (if bt139.2 = bt143.2 then (if bt145.1 = (wrap64 (-bt139.1)) then (vinculumlaw01_FixedTurns.j0 k a0 a2 bt139.2 (bt145.2 != bt139.2)) else (vinculumlaw01_FixedTurns.j0 k a0 a2 bt139.2 true)) else (vinculumlaw01_FixedTurns.j0 k a0 a2 bt139.2 true)) else (vinculumlaw01_FixedTurns.j0 k a0 a2 bt139.2 true)) else (vinculumlaw01_FixedTurns.j0 k a0 a2 bt139.2 true)) else (vinculumlaw01_FixedTurns.j0 k a0 a2 bt139.2 true)))))) = some r := by rw [if_pos rfl] at H; exact H
    clear H
    have H := H1
    clear H1
    replace H := Option.bind_eq_some_iff.mp H
    obtain ⟨⟨t139, t140⟩, A60, H⟩ := H
    replace H : ((fixed_MulDiv.f a1 a0 a2).bind fun bt141 => ((fixed_MulDiv.f (wrap64 (-a0)) a1 (wrap64 (-a2))).bind fun bt143 => ((fixed_MulDiv.f (wrap64 (-a0)) a1 a2).bind fun bt145 => (if t139 = bt141.1 then (if t140 = bt141.2 then (if t139 = bt143.1 then (if t140 = bt143.2 then (if bt145.1 = (wrap64 (-t139)) then (vinculumlaw01_FixedTurns.j0 k a0 a2 t140 (bt145.2 != t140)) else (vinculumlaw01_FixedTurns.j0 k a0 a2 t140 true)) else (vinculumlaw01_FixedTurns.j0 k a0 a2 t140 true)) else (vinculumlaw01_FixedTurns.j0 k a0 a2 t140 true)) else (vinculumlaw01_FixedTurns.j0 k a0 a2 t140 true)) else (vinculumlaw01_FixedTurns.j0 k a0 a2 t140 true))))) = some r := H
    have A6 := Aside0.mk A60
    clear A60
    replace H := Option.bind_eq_some_iff.mp H
    obtain ⟨⟨t141, t142⟩, A70, H⟩ := H
    replace H : ((fixed_MulDiv.f (wrap64 (-a0)) a1 (wrap64 (-a2))).bind fun bt143 => ((fixed_MulDiv.f (wrap64 (-a0)) a1 a2).bind fun bt145 => (if t139 = t141 then (if t140 = t142 then (if t139 = bt143.1 then (if t140 = bt143.2 then (if bt145.1 = (wrap64 (-t139)) then (vinculumlaw01_FixedTurns.j0 k a0 a2 t140 (bt145.2 != t140)) else (vinculumlaw01_FixedTurns.j0 k a0 a2 t140 true)) else (vinculumlaw01_FixedTurns.j0 k a0 a2 t140 true)) else (vinculumlaw01_FixedTurns.j0 k a0 a2 t140 true)) else (vinculumlaw01_FixedTurns.j0 k a0 a2 t140 true)) else (vinculumlaw01_FixedTurns.j0 k a0 a2 t140 true)))) = some r := H
    have A7 := Aside0.mk A70
    clear A70
    replace H := Option.bind_eq_some_iff.mp H
    obtain ⟨⟨t143, t144⟩, A80, H⟩ := H
    replace H : ((fixed_MulDiv.f (wrap64 (-a0)) a1 a2).bind fun bt145 => (if t139 = t141 then (if t140 = t142 then (if t139 = t143 then (if t140 = t144 then (if bt145.1 = (wrap64 (-t139)) then (vinculumlaw01_FixedTurns.j0 k a0 a2 t140 (bt145.2 != t140)) else (vinculumlaw01_FixedTurns.j0 k a0 a2 t140 true)) else (vinculumlaw01_FixedTurns.j0 k a0 a2 t140 true)) else (vinculumlaw01_FixedTurns.j0 k a0 a2 t140 true)) else (vinculumlaw01_FixedTurns.j0 k a0 a2 t140 true)) else (vinculumlaw01_FixedTurns.j0 k a0 a2 t140 true))) = some r := H
    have A8 := Aside0.mk A80
    clear A80
    replace H := Option.bind_eq_some_iff.mp H
    obtain ⟨⟨t145, t146⟩, A90, H⟩ := H
    replace H : (if t139 = t141 then (if t140 = t142 then (if t139 = t143 then (if t140 = t144 then (if t145 = (wrap64 (-t139)) then (vinculumlaw01_FixedTurns.j0 k a0 a2 t140 (t146 != t140)) else (vinculumlaw01_FixedTurns.j0 k a0 a2 t140 true)) else (vinculumlaw01_FixedTurns.j0 k a0 a2 t140 true)) else (vinculumlaw01_FixedTurns.j0 k a0 a2 t140 true)) else (vinculumlaw01_FixedTurns.j0 k a0 a2 t140 true)) else (vinculumlaw01_FixedTurns.j0 k a0 a2 t140 true)) = some r := H
    have A9 := Aside0.mk A90
    clear A90
    have HC10 := Aside0.mk H
    clear H
    go_enter Try.func4, Try.ntmps4
    go_upto_region 8 with (first | ((with_reducible refine gate_dst (N := 22) rfl ?_); refine Kd.R_lit (Kd.int .i64) _ 3 ?hg (N := 22) ?hd (xs := ([a0, a1, a2] : List Int)) (inner := [.int .i64 a0, .int .i64 a1, .int .i64 a2]) (ok := fun _ => True) (okp := fun _ => True) ?hr ?hp (fun _ hk => hk) trivial (Below.refl _ _) (Nat.le_refl _) (by simp) ?_; (case hd => rfl); (case hg => rfl); (case hr => first | (go_simp; done) | (go_simp; rfl)); (case hp => exact (Reps.one (show Kd.M (Kd.int .i64) _ _ _ a0 [.int .i64 a0] from rfl) (Reps.one (show Kd.M (Kd.int .i64) _ _ _ a1 [.int .i64 a1] from rfl) (Reps.one (show Kd.M (Kd.int .i64) _ _ _ a2 [.int .i64 a2] from rfl) (Reps.none _ _))))); intro v133 w11 ho12 hb hg_ hnew_; clear hg_ hnew_; (first | rw [← Ny132.out] at ho12 | (simp only [Int.reduceToNat] at ho12; rw [← Ny132.out] at ho12)); have n0_ := Aside0.mk (Kd.R_lower ho12 (below_size (by repeat (first | (with_reducible first | exact HB.out | apply below_alloc | apply pw_below_drewN | apply below_drew1) | exact HB.out)))); have n1_ := Aside0.mk (below_step (by repeat (first | (with_reducible first | exact HB.out | apply below_alloc | apply pw_below_drewN | apply below_drew1) | exact HB.out)) hb); clear HB; have HO134 := n0_; have HB := n1_; clear n0_ n1_; clear hb ho12; obtain ⟨Ao13, co13, eo13⟩ := Kd.R_slice HO134.out; subst eo13) | ((with_reducible refine gate_callee (f := 11) rfl ?_); refine goesL_ (some 23) rfl rfl Try.func11 (by kernel_rfl) rfl #[.slice Ao13 y132.length co13] rfl (by (try simp only [List.map_toArray, List.map_cons, List.map_nil]); first | done | rfl | (simp only [List.length_drop, List.length_take]; rfl)) ?_; (with_reducible refine (fixed_Is.calls k _ _ y132 true _ ?side1 ?side2 A4.out).mono ?_); (case side1 => repeat (first | exact (Kd.R_reads' HO134.out).2.2 | (with_reducible refine Kd.C_alloc ?_ _) | (with_reducible refine Kd.C_drewN ?_ _) | (with_reducible refine Kd.C_drew ?_))); (case side2 => exact (Kd.R_reads' HO134.out).2.1); rintro e w' ⟨rfl, ⟨nd, rfl⟩⟩; refine ⟨_, rfl, ?_⟩) | ((with_reducible refine gate_callee (f := 9) rfl ?_); refine goesL_ (some 41) rfl rfl Try.func9 (by kernel_rfl) rfl #[.int .i64 a0, .int .i64 a1, .int .i64 a2] rfl (by (try simp only [List.map_toArray, List.map_cons, List.map_nil]); first | done | rfl | (simp only [List.length_drop, List.length_take]; rfl)) ?_; (with_reducible refine (fixed_MulDiv.calls a0 a1 a2 t139 t140 _ A6.out).mono ?_); rintro e w14 ⟨rfl, hb⟩; refine ⟨_, rfl, ?_⟩; have n0_ := Aside0.mk (Kd.R_below (by (with_reducible repeat (first | apply Kd.R_alloc | apply Kd.R_drewN | apply Kd.R_drew)); exact HO134.out) hb); have n1_ := Aside0.mk (below_step (by repeat (first | (with_reducible first | exact HB.out | apply below_alloc | apply pw_below_drewN | apply below_drew1) | exact HB.out)) hb); clear HO134; clear HB; have HO134 := n0_; have HB := n1_; clear n0_ n1_; (try clear hb); (try clear hb2); (try clear hk); (try clear hi)) | ((with_reducible refine gate_callee (f := 9) rfl ?_); refine goesL_ (some 48) rfl rfl Try.func9 (by kernel_rfl) rfl #[.int .i64 a1, .int .i64 a0, .int .i64 a2] rfl (by (try simp only [List.map_toArray, List.map_cons, List.map_nil]); first | done | rfl | (simp only [List.length_drop, List.length_take]; rfl)) ?_; (with_reducible refine (fixed_MulDiv.calls a1 a0 a2 t141 t142 _ A7.out).mono ?_); rintro e w15 ⟨rfl, hb⟩; refine ⟨_, rfl, ?_⟩; have n0_ := Aside0.mk (Kd.R_below (by (with_reducible repeat (first | apply Kd.R_alloc | apply Kd.R_drewN | apply Kd.R_drew)); exact HO134.out) hb); have n1_ := Aside0.mk (below_step (by repeat (first | (with_reducible first | exact HB.out | apply below_alloc | apply pw_below_drewN | apply below_drew1) | exact HB.out)) hb); clear HO134; clear HB; have HO134 := n0_; have HB := n1_; clear n0_ n1_; (try clear hb); (try clear hb2); (try clear hk); (try clear hi)) | ((with_reducible refine gate_callee (f := 9) rfl ?_); refine goesL_ (some 57) rfl rfl Try.func9 (by kernel_rfl) rfl #[.int .i64 (wrap64 (-a0)), .int .i64 a1, .int .i64 (wrap64 (-a2))] rfl (by (try simp only [List.map_toArray, List.map_cons, List.map_nil]); first | done | rfl | (simp only [List.length_drop, List.length_take]; rfl)) ?_; (with_reducible refine (fixed_MulDiv.calls (wrap64 (-a0)) a1 (wrap64 (-a2)) t143 t144 _ A8.out).mono ?_); rintro e w16 ⟨rfl, hb⟩; refine ⟨_, rfl, ?_⟩; have n0_ := Aside0.mk (Kd.R_below (by (with_reducible repeat (first | apply Kd.R_alloc | apply Kd.R_drewN | apply Kd.R_drew)); exact HO134.out) hb); have n1_ := Aside0.mk (below_step (by repeat (first | (with_reducible first | exact HB.out | apply below_alloc | apply pw_below_drewN | apply below_drew1) | exact HB.out)) hb); clear HO134; clear HB; have HO134 := n0_; have HB := n1_; clear n0_ n1_; (try clear hb); (try clear hb2); (try clear hk); (try clear hi)) | ((with_reducible refine gate_callee (f := 9) rfl ?_); refine goesL_ (some 65) rfl rfl Try.func9 (by kernel_rfl) rfl #[.int .i64 (wrap64 (-a0)), .int .i64 a1, .int .i64 a2] rfl (by (try simp only [List.map_toArray, List.map_cons, List.map_nil]); first | done | rfl | (simp only [List.length_drop, List.length_take]; rfl)) ?_; (with_reducible refine (fixed_MulDiv.calls (wrap64 (-a0)) a1 a2 t145 t146 _ A9.out).mono ?_); rintro e w17 ⟨rfl, hb⟩; refine ⟨_, rfl, ?_⟩; have n0_ := Aside0.mk (Kd.R_below (by (with_reducible repeat (first | apply Kd.R_alloc | apply Kd.R_drewN | apply Kd.R_drew)); exact HO134.out) hb); have n1_ := Aside0.mk (below_step (by repeat (first | (with_reducible first | exact HB.out | apply below_alloc | apply pw_below_drewN | apply below_drew1) | exact HB.out)) hb); clear HO134; clear HB; have HO134 := n0_; have HB := n1_; clear n0_ n1_; (try clear hb); (try clear hb2); (try clear hk); (try clear hi)))
    (try simp only [Act.put, List.setIfInBounds_toArray, List.set_cons_zero, List.set_cons_succ])
    go_cut [96] (fun v96 wc => ∃ (kq : Nat) (x96_9 : Bool), v96 = .bool x96_9 ∧ Aside0 (vinculumlaw01_FixedTurns.j0 kq a0 a2 t140 x96_9 = some r) ∧ Aside0 (kq ≤ k) ∧ Aside0 (Below w.heap.size w wc))
    case first =>
      have H := HC10.out
      clear HC10
      by_cases c18 : t139 = t141
      · rw [if_pos c18] at H
        have c18b0 : (t139 == t141) = true := beq_iff_eq.mpr c18
        have c18b1 : (t139 != t141) = false := bne_eq_false_iff_eq.mpr c18
        clear c18
        (first | rw [c18b0] | (simp only [i64_w, i32_w]; rw [c18b0]) | skip)
        by_cases c19 : t140 = t142
        · rw [if_pos c19] at H
          have c19b0 : (t140 == t142) = true := beq_iff_eq.mpr c19
          have c19b1 : (t140 != t142) = false := bne_eq_false_iff_eq.mpr c19
          clear c19
          by_cases c20 : t139 = t143
          · rw [if_pos c20] at H
            have c20b0 : (t139 == t143) = true := beq_iff_eq.mpr c20
            have c20b1 : (t139 != t143) = false := bne_eq_false_iff_eq.mpr c20
            clear c20
            by_cases c21 : t140 = t144
            · rw [if_pos c21] at H
              have c21b0 : (t140 == t144) = true := beq_iff_eq.mpr c21
              have c21b1 : (t140 != t144) = false := bne_eq_false_iff_eq.mpr c21
              clear c21
              by_cases c22 : t145 = (wrap64 (-t139))
              · rw [if_pos c22] at H
                have c22b0 : (t145 == (wrap64 (-t139))) = true := beq_iff_eq.mpr c22
                have c22b1 : (t145 != (wrap64 (-t139))) = false := bne_eq_false_iff_eq.mpr c22
                clear c22
                have H' := Aside0.mk H
                clear H
                go_wp2
                go_meet
                case rel => exact ⟨_, ((t146 != t140)), (by first | rfl | (simp; done) | (simp [*]; done)), H', ⟨by first | omega | exact Nat.le_refl _⟩, ⟨by repeat (first | (with_reducible first | exact HB.out | apply below_alloc | apply pw_below_drewN | apply below_drew1) | exact HB.out)⟩⟩
              · rw [if_neg c22] at H
                have c22b0 : (t145 == (wrap64 (-t139))) = false := beq_eq_false_iff_ne.mpr c22
                have c22b1 : (t145 != (wrap64 (-t139))) = true := bne_iff_ne.mpr c22
                have H' := Aside0.mk H
                clear H
                go_wp2
                go_meet
                case rel => exact ⟨_, (true), (by first | rfl | (simp; done) | (simp [*]; done)), H', ⟨by first | omega | exact Nat.le_refl _⟩, ⟨by repeat (first | (with_reducible first | exact HB.out | apply below_alloc | apply pw_below_drewN | apply below_drew1) | exact HB.out)⟩⟩
            · rw [if_neg c21] at H
              have c21b0 : (t140 == t144) = false := beq_eq_false_iff_ne.mpr c21
              have c21b1 : (t140 != t144) = true := bne_iff_ne.mpr c21
              have H' := Aside0.mk H
              clear H
              go_wp2
              go_meet
              case rel => exact ⟨_, (true), (by first | rfl | (simp; done) | (simp [*]; done)), H', ⟨by first | omega | exact Nat.le_refl _⟩, ⟨by repeat (first | (with_reducible first | exact HB.out | apply below_alloc | apply pw_below_drewN | apply below_drew1) | exact HB.out)⟩⟩
          · rw [if_neg c20] at H
            have c20b0 : (t139 == t143) = false := beq_eq_false_iff_ne.mpr c20
            have c20b1 : (t139 != t143) = true := bne_iff_ne.mpr c20
            have H' := Aside0.mk H
            clear H
            go_wp2
            go_meet
            case rel => exact ⟨_, (true), (by first | rfl | (simp; done) | (simp [*]; done)), H', ⟨by first | omega | exact Nat.le_refl _⟩, ⟨by repeat (first | (with_reducible first | exact HB.out | apply below_alloc | apply pw_below_drewN | apply below_drew1) | exact HB.out)⟩⟩
        · rw [if_neg c19] at H
          have c19b0 : (t140 == t142) = false := beq_eq_false_iff_ne.mpr c19
          have c19b1 : (t140 != t142) = true := bne_iff_ne.mpr c19
          have H' := Aside0.mk H
          clear H
          go_wp2
          go_meet
          case rel => exact ⟨_, (true), (by first | rfl | (simp; done) | (simp [*]; done)), H', ⟨by first | omega | exact Nat.le_refl _⟩, ⟨by repeat (first | (with_reducible first | exact HB.out | apply below_alloc | apply pw_below_drewN | apply below_drew1) | exact HB.out)⟩⟩
      · rw [if_neg c18] at H
        have c18b0 : (t139 == t141) = false := beq_eq_false_iff_ne.mpr c18
        have c18b1 : (t139 != t141) = true := bne_iff_ne.mpr c18
        (first | rw [c18b0] | (simp only [i64_w, i32_w]; rw [c18b0]) | skip)
        have H' := Aside0.mk H
        clear H
        go_wp2
        go_meet
        case rel => exact ⟨_, (true), (by first | rfl | (simp; done) | (simp [*]; done)), H', ⟨by first | omega | exact Nat.le_refl _⟩, ⟨by repeat (first | (with_reducible first | exact HB.out | apply below_alloc | apply pw_below_drewN | apply below_drew1) | exact HB.out)⟩⟩
    case rest =>
      clear HC10
      try clear c1
      try clear c2
      try clear p2
      try clear c4
      try clear c5
      try clear p6
      try clear c9
      try clear c11
      try clear c18
      try clear c18b0
      try clear c18b1
      try clear c19
      try clear c19b0
      try clear c19b1
      try clear c20
      try clear c20b0
      try clear c20b1
      try clear c21
      try clear c21b0
      try clear c21b1
      try clear c22
      try clear c22b0
      try clear c22b1
      obtain ⟨kq, x96_9, rfl, HA, HJ9, HB⟩ := hcut
      cases kq with
      | zero => exact absurd HA.out (by simp [vinculumlaw01_FixedTurns.j0])
      | succ kj9 =>
        have H := HA.out
        clear HA
        simp only [vinculumlaw01_FixedTurns.j0] at H
        by_cases c23 : x96_9 = true
        · subst c23
          have H1 : (some false) = some r := by rw [if_pos rfl] at H; exact H
          clear H
          have H := H1
          clear H1
          obtain rfl := Option.some.inj H
          go_wp2
          go_ret
          exact ⟨by first | rfl | (simp [errW_none, errW_some] <;> rfl) | (simp [*, errW_none, errW_some] <;> rfl), by repeat (first | (with_reducible first | exact HB.out | apply below_alloc | apply pw_below_drewN | apply below_drew1) | exact HB.out)⟩
        · replace c23 := Bool.eq_false_iff.mpr c23
          subst c23
          have H1 : (if a2 = 0 then ((vinculumlaw01_checked.f kj9).bind fun t147 => (if t147 = true then (some (t140 == 1)) else (some false))) else ((fixed_MulDiv.f a0 a2 a2).bind fun bt148 => ((vinculumlaw01_checked.f kj9).bind fun t150 => (if t150 = true then (if bt148.2 = 0 then (some (bt148.1 == a0)) else (some false)) else (some false))))) = some r := by rw [if_neg (show ¬ (false = true) by decide)] at H; exact H
          clear H
          have H := H1
          clear H1
          by_cases c24 : a2 = 0
          · rw [if_pos c24] at H
            have c24b0 : (a2 == 0) = true := beq_iff_eq.mpr c24
            have c24b1 : (a2 != 0) = false := bne_eq_false_iff_eq.mpr c24
            clear c24
            replace H := Option.bind_eq_some_iff.mp H
            obtain ⟨t147, A250, H⟩ := H
            replace H : (if t147 = true then (some (t140 == 1)) else (some false)) = some r := H
            have A25 := Aside0.mk A250
            clear A250
            by_cases c26 : t147 = true
            · subst c26
              have H1 : (some (t140 == 1)) = some r := by rw [if_pos rfl] at H; exact H
              clear H
              have H := H1
              clear H1
              obtain rfl := Option.some.inj H
              go_wp2_with (first | ((with_reducible refine gate_callee (f := 10) rfl ?_); refine goesL_ (some 99) rfl rfl Try.func10 (by kernel_rfl) rfl #[] rfl (by (try simp only [List.map_toArray, List.map_cons, List.map_nil]); first | done | rfl | (simp only [List.length_drop, List.length_take]; rfl)) ?_; (with_reducible refine (vinculumlaw01_checked.calls kj9  true _ A25.out).mono ?_); rintro e w27 ⟨rfl, hb⟩; refine ⟨_, rfl, ?_⟩; have n0_ := Aside0.mk (below_step (by repeat (first | (with_reducible first | exact HB.out | apply below_alloc | apply pw_below_drewN | apply below_drew1) | exact HB.out)) hb); clear HB; have HB := n0_; clear n0_; (try clear hb); (try clear hb2); (try clear hk); (try clear hi)))
              go_ret
              exact ⟨by first | rfl | (simp [errW_none, errW_some] <;> rfl) | (simp [*, errW_none, errW_some] <;> rfl), by repeat (first | (with_reducible first | exact HB.out | apply below_alloc | apply pw_below_drewN | apply below_drew1) | exact HB.out)⟩
            · replace c26 := Bool.eq_false_iff.mpr c26
              subst c26
              have H1 : (some false) = some r := by rw [if_neg (show ¬ (false = true) by decide)] at H; exact H
              clear H
              have H := H1
              clear H1
              obtain rfl := Option.some.inj H
              go_wp2_with (first | ((with_reducible refine gate_callee (f := 10) rfl ?_); refine goesL_ (some 99) rfl rfl Try.func10 (by kernel_rfl) rfl #[] rfl (by (try simp only [List.map_toArray, List.map_cons, List.map_nil]); first | done | rfl | (simp only [List.length_drop, List.length_take]; rfl)) ?_; (with_reducible refine (vinculumlaw01_checked.calls kj9  false _ A25.out).mono ?_); rintro e w28 ⟨rfl, hb⟩; refine ⟨_, rfl, ?_⟩; have n0_ := Aside0.mk (below_step (by repeat (first | (with_reducible first | exact HB.out | apply below_alloc | apply pw_below_drewN | apply below_drew1) | exact HB.out)) hb); clear HB; have HB := n0_; clear n0_; (try clear hb); (try clear hb2); (try clear hk); (try clear hi)))
              go_ret
              exact ⟨by first | rfl | (simp [errW_none, errW_some] <;> rfl) | (simp [*, errW_none, errW_some] <;> rfl), by repeat (first | (with_reducible first | exact HB.out | apply below_alloc | apply pw_below_drewN | apply below_drew1) | exact HB.out)⟩
          · rw [if_neg c24] at H
            have c24b0 : (a2 == 0) = false := beq_eq_false_iff_ne.mpr c24
            have c24b1 : (a2 != 0) = true := bne_iff_ne.mpr c24
            replace H := Option.bind_eq_some_iff.mp H
            obtain ⟨⟨t148, t149⟩, A290, H⟩ := H
            replace H : ((vinculumlaw01_checked.f kj9).bind fun t150 => (if t150 = true then (if t149 = 0 then (some (t148 == a0)) else (some false)) else (some false))) = some r := H
            have A29 := Aside0.mk A290
            clear A290
            replace H := Option.bind_eq_some_iff.mp H
            obtain ⟨t150, A300, H⟩ := H
            replace H : (if t150 = true then (if t149 = 0 then (some (t148 == a0)) else (some false)) else (some false)) = some r := H
            have A30 := Aside0.mk A300
            clear A300
            by_cases c31 : t150 = true
            · subst c31
              have H1 : (if t149 = 0 then (some (t148 == a0)) else (some false)) = some r := by rw [if_pos rfl] at H; exact H
              clear H
              have H := H1
              clear H1
              by_cases c32 : t149 = 0
              · rw [if_pos c32] at H
                have c32b0 : (t149 == 0) = true := beq_iff_eq.mpr c32
                have c32b1 : (t149 != 0) = false := bne_eq_false_iff_eq.mpr c32
                clear c32
                obtain rfl := Option.some.inj H
                go_wp2_with (first | ((with_reducible refine gate_callee (f := 9) rfl ?_); refine goesL_ (some 108) rfl rfl Try.func9 (by kernel_rfl) rfl #[.int .i64 a0, .int .i64 a2, .int .i64 a2] rfl (by (try simp only [List.map_toArray, List.map_cons, List.map_nil]); first | done | rfl | (simp only [List.length_drop, List.length_take]; rfl)) ?_; (with_reducible refine (fixed_MulDiv.calls a0 a2 a2 t148 t149 _ A29.out).mono ?_); rintro e w33 ⟨rfl, hb⟩; refine ⟨_, rfl, ?_⟩; have n0_ := Aside0.mk (below_step (by repeat (first | (with_reducible first | exact HB.out | apply below_alloc | apply pw_below_drewN | apply below_drew1) | exact HB.out)) hb); clear HB; have HB := n0_; clear n0_; (try clear hb); (try clear hb2); (try clear hk); (try clear hi)) | ((with_reducible refine gate_callee (f := 10) rfl ?_); refine goesL_ (some 111) rfl rfl Try.func10 (by kernel_rfl) rfl #[] rfl (by (try simp only [List.map_toArray, List.map_cons, List.map_nil]); first | done | rfl | (simp only [List.length_drop, List.length_take]; rfl)) ?_; (with_reducible refine (vinculumlaw01_checked.calls kj9  true _ A30.out).mono ?_); rintro e w34 ⟨rfl, hb⟩; refine ⟨_, rfl, ?_⟩; have n0_ := Aside0.mk (below_step (by repeat (first | (with_reducible first | exact HB.out | apply below_alloc | apply pw_below_drewN | apply below_drew1) | exact HB.out)) hb); clear HB; have HB := n0_; clear n0_; (try clear hb); (try clear hb2); (try clear hk); (try clear hi)))
                go_ret
                exact ⟨by first | rfl | (simp [errW_none, errW_some] <;> rfl) | (simp [*, errW_none, errW_some] <;> rfl), by repeat (first | (with_reducible first | exact HB.out | apply below_alloc | apply pw_below_drewN | apply below_drew1) | exact HB.out)⟩
              · rw [if_neg c32] at H
                have c32b0 : (t149 == 0) = false := beq_eq_false_iff_ne.mpr c32
                have c32b1 : (t149 != 0) = true := bne_iff_ne.mpr c32
                obtain rfl := Option.some.inj H
                go_wp2_with (first | ((with_reducible refine gate_callee (f := 9) rfl ?_); refine goesL_ (some 108) rfl rfl Try.func9 (by kernel_rfl) rfl #[.int .i64 a0, .int .i64 a2, .int .i64 a2] rfl (by (try simp only [List.map_toArray, List.map_cons, List.map_nil]); first | done | rfl | (simp only [List.length_drop, List.length_take]; rfl)) ?_; (with_reducible refine (fixed_MulDiv.calls a0 a2 a2 t148 t149 _ A29.out).mono ?_); rintro e w35 ⟨rfl, hb⟩; refine ⟨_, rfl, ?_⟩; have n0_ := Aside0.mk (below_step (by repeat (first | (with_reducible first | exact HB.out | apply below_alloc | apply pw_below_drewN | apply below_drew1) | exact HB.out)) hb); clear HB; have HB := n0_; clear n0_; (try clear hb); (try clear hb2); (try clear hk); (try clear hi)) | ((with_reducible refine gate_callee (f := 10) rfl ?_); refine goesL_ (some 111) rfl rfl Try.func10 (by kernel_rfl) rfl #[] rfl (by (try simp only [List.map_toArray, List.map_cons, List.map_nil]); first | done | rfl | (simp only [List.length_drop, List.length_take]; rfl)) ?_; (with_reducible refine (vinculumlaw01_checked.calls kj9  true _ A30.out).mono ?_); rintro e w36 ⟨rfl, hb⟩; refine ⟨_, rfl, ?_⟩; have n0_ := Aside0.mk (below_step (by repeat (first | (with_reducible first | exact HB.out | apply below_alloc | apply pw_below_drewN | apply below_drew1) | exact HB.out)) hb); clear HB; have HB := n0_; clear n0_; (try clear hb); (try clear hb2); (try clear hk); (try clear hi)))
                go_ret
                exact ⟨by first | rfl | (simp [errW_none, errW_some] <;> rfl) | (simp [*, errW_none, errW_some] <;> rfl), by repeat (first | (with_reducible first | exact HB.out | apply below_alloc | apply pw_below_drewN | apply below_drew1) | exact HB.out)⟩
            · replace c31 := Bool.eq_false_iff.mpr c31
              subst c31
              have H1 : (some false) = some r := by rw [if_neg (show ¬ (false = true) by decide)] at H; exact H
              clear H
              have H := H1
              clear H1
              obtain rfl := Option.some.inj H
              go_wp2_with (first | ((with_reducible refine gate_callee (f := 9) rfl ?_); refine goesL_ (some 108) rfl rfl Try.func9 (by kernel_rfl) rfl #[.int .i64 a0, .int .i64 a2, .int .i64 a2] rfl (by (try simp only [List.map_toArray, List.map_cons, List.map_nil]); first | done | rfl | (simp only [List.length_drop, List.length_take]; rfl)) ?_; (with_reducible refine (fixed_MulDiv.calls a0 a2 a2 t148 t149 _ A29.out).mono ?_); rintro e w37 ⟨rfl, hb⟩; refine ⟨_, rfl, ?_⟩; have n0_ := Aside0.mk (below_step (by repeat (first | (with_reducible first | exact HB.out | apply below_alloc | apply pw_below_drewN | apply below_drew1) | exact HB.out)) hb); clear HB; have HB := n0_; clear n0_; (try clear hb); (try clear hb2); (try clear hk); (try clear hi)) | ((with_reducible refine gate_callee (f := 10) rfl ?_); refine goesL_ (some 111) rfl rfl Try.func10 (by kernel_rfl) rfl #[] rfl (by (try simp only [List.map_toArray, List.map_cons, List.map_nil]); first | done | rfl | (simp only [List.length_drop, List.length_take]; rfl)) ?_; (with_reducible refine (vinculumlaw01_checked.calls kj9  false _ A30.out).mono ?_); rintro e w38 ⟨rfl, hb⟩; refine ⟨_, rfl, ?_⟩; have n0_ := Aside0.mk (below_step (by repeat (first | (with_reducible first | exact HB.out | apply below_alloc | apply pw_below_drewN | apply below_drew1) | exact HB.out)) hb); clear HB; have HB := n0_; clear n0_; (try clear hb); (try clear hb2); (try clear hk); (try clear hi)))
              go_ret
              exact ⟨by first | rfl | (simp [errW_none, errW_some] <;> rfl) | (simp [*, errW_none, errW_some] <;> rfl), by repeat (first | (with_reducible first | exact HB.out | apply below_alloc | apply pw_below_drewN | apply below_drew1) | exact HB.out)⟩
  · replace c5 := Bool.eq_false_iff.mpr c5
    subst c5
    have H1 : ((fixed_MulDiv.f a0 a1 a2).bind fun bt136 => ((vinculumlaw01_checked.f k).bind fun t138 => (if t138 = true then (some (bt136.2 == 1)) else (some false)))) = some r := by rw [if_neg (show ¬ (false = true) by decide)] at H; exact H
    clear H
    have H := H1
    clear H1
    replace H := Option.bind_eq_some_iff.mp H
    obtain ⟨⟨t136, t137⟩, A390, H⟩ := H
    replace H : ((vinculumlaw01_checked.f k).bind fun t138 => (if t138 = true then (some (t137 == 1)) else (some false))) = some r := H
    have A39 := Aside0.mk A390
    clear A390
    replace H := Option.bind_eq_some_iff.mp H
    obtain ⟨t138, A400, H⟩ := H
    replace H : (if t138 = true then (some (t137 == 1)) else (some false)) = some r := H
    have A40 := Aside0.mk A400
    clear A400
    by_cases c41 : t138 = true
    · subst c41
      have H1 : (some (t137 == 1)) = some r := by rw [if_pos rfl] at H; exact H
      clear H
      have H := H1
      clear H1
      obtain rfl := Option.some.inj H
      go_enter Try.func4, Try.ntmps4
      go_wp2_with (first | ((with_reducible refine gate_dst (N := 22) rfl ?_); refine Kd.R_lit (Kd.int .i64) _ 3 ?hg (N := 22) ?hd (xs := ([a0, a1, a2] : List Int)) (inner := [.int .i64 a0, .int .i64 a1, .int .i64 a2]) (ok := fun _ => True) (okp := fun _ => True) ?hr ?hp (fun _ hk => hk) trivial (Below.refl _ _) (Nat.le_refl _) (by simp) ?_; (case hd => rfl); (case hg => rfl); (case hr => first | (go_simp; done) | (go_simp; rfl)); (case hp => exact (Reps.one (show Kd.M (Kd.int .i64) _ _ _ a0 [.int .i64 a0] from rfl) (Reps.one (show Kd.M (Kd.int .i64) _ _ _ a1 [.int .i64 a1] from rfl) (Reps.one (show Kd.M (Kd.int .i64) _ _ _ a2 [.int .i64 a2] from rfl) (Reps.none _ _))))); intro v133 w42 ho43 hb hg_ hnew_; clear hg_ hnew_; (first | rw [← Ny132.out] at ho43 | (simp only [Int.reduceToNat] at ho43; rw [← Ny132.out] at ho43)); have n0_ := Aside0.mk (Kd.R_lower ho43 (below_size (by repeat (first | (with_reducible first | exact HB.out | apply below_alloc | apply pw_below_drewN | apply below_drew1) | exact HB.out)))); have n1_ := Aside0.mk (below_step (by repeat (first | (with_reducible first | exact HB.out | apply below_alloc | apply pw_below_drewN | apply below_drew1) | exact HB.out)) hb); clear HB; have HO134 := n0_; have HB := n1_; clear n0_ n1_; clear hb ho43; obtain ⟨Ao44, co44, eo44⟩ := Kd.R_slice HO134.out; subst eo44) | ((with_reducible refine gate_callee (f := 11) rfl ?_); refine goesL_ (some 23) rfl rfl Try.func11 (by kernel_rfl) rfl #[.slice Ao44 y132.length co44] rfl (by (try simp only [List.map_toArray, List.map_cons, List.map_nil]); first | done | rfl | (simp only [List.length_drop, List.length_take]; rfl)) ?_; (with_reducible refine (fixed_Is.calls k _ _ y132 false _ ?side1 ?side2 A4.out).mono ?_); (case side1 => repeat (first | exact (Kd.R_reads' HO134.out).2.2 | (with_reducible refine Kd.C_alloc ?_ _) | (with_reducible refine Kd.C_drewN ?_ _) | (with_reducible refine Kd.C_drew ?_))); (case side2 => exact (Kd.R_reads' HO134.out).2.1); rintro e w' ⟨rfl, ⟨nd, rfl⟩⟩; refine ⟨_, rfl, ?_⟩) | ((with_reducible refine gate_callee (f := 9) rfl ?_); refine goesL_ (some 29) rfl rfl Try.func9 (by kernel_rfl) rfl #[.int .i64 a0, .int .i64 a1, .int .i64 a2] rfl (by (try simp only [List.map_toArray, List.map_cons, List.map_nil]); first | done | rfl | (simp only [List.length_drop, List.length_take]; rfl)) ?_; (with_reducible refine (fixed_MulDiv.calls a0 a1 a2 t136 t137 _ A39.out).mono ?_); rintro e w45 ⟨rfl, hb⟩; refine ⟨_, rfl, ?_⟩; have n0_ := Aside0.mk (Kd.R_below (by (with_reducible repeat (first | apply Kd.R_alloc | apply Kd.R_drewN | apply Kd.R_drew)); exact HO134.out) hb); have n1_ := Aside0.mk (below_step (by repeat (first | (with_reducible first | exact HB.out | apply below_alloc | apply pw_below_drewN | apply below_drew1) | exact HB.out)) hb); clear HO134; clear HB; have HO134 := n0_; have HB := n1_; clear n0_ n1_; (try clear hb); (try clear hb2); (try clear hk); (try clear hi)) | ((with_reducible refine gate_callee (f := 10) rfl ?_); refine goesL_ (some 32) rfl rfl Try.func10 (by kernel_rfl) rfl #[] rfl (by (try simp only [List.map_toArray, List.map_cons, List.map_nil]); first | done | rfl | (simp only [List.length_drop, List.length_take]; rfl)) ?_; (with_reducible refine (vinculumlaw01_checked.calls k  true _ A40.out).mono ?_); rintro e w46 ⟨rfl, hb⟩; refine ⟨_, rfl, ?_⟩; have n0_ := Aside0.mk (Kd.R_below (by (with_reducible repeat (first | apply Kd.R_alloc | apply Kd.R_drewN | apply Kd.R_drew)); exact HO134.out) hb); have n1_ := Aside0.mk (below_step (by repeat (first | (with_reducible first | exact HB.out | apply below_alloc | apply pw_below_drewN | apply below_drew1) | exact HB.out)) hb); clear HO134; clear HB; have HO134 := n0_; have HB := n1_; clear n0_ n1_; (try clear hb); (try clear hb2); (try clear hk); (try clear hi)))
      go_ret
      exact ⟨by first | rfl | (simp [errW_none, errW_some] <;> rfl) | (simp [*, errW_none, errW_some] <;> rfl), by repeat (first | (with_reducible first | exact HB.out | apply below_alloc | apply pw_below_drewN | apply below_drew1) | exact HB.out)⟩
    · replace c41 := Bool.eq_false_iff.mpr c41
      subst c41
      have H1 : (some false) = some r := by rw [if_neg (show ¬ (false = true) by decide)] at H; exact H
      clear H
      have H := H1
      clear H1
      obtain rfl := Option.some.inj H
      go_enter Try.func4, Try.ntmps4
      go_wp2_with (first | ((with_reducible refine gate_dst (N := 22) rfl ?_); refine Kd.R_lit (Kd.int .i64) _ 3 ?hg (N := 22) ?hd (xs := ([a0, a1, a2] : List Int)) (inner := [.int .i64 a0, .int .i64 a1, .int .i64 a2]) (ok := fun _ => True) (okp := fun _ => True) ?hr ?hp (fun _ hk => hk) trivial (Below.refl _ _) (Nat.le_refl _) (by simp) ?_; (case hd => rfl); (case hg => rfl); (case hr => first | (go_simp; done) | (go_simp; rfl)); (case hp => exact (Reps.one (show Kd.M (Kd.int .i64) _ _ _ a0 [.int .i64 a0] from rfl) (Reps.one (show Kd.M (Kd.int .i64) _ _ _ a1 [.int .i64 a1] from rfl) (Reps.one (show Kd.M (Kd.int .i64) _ _ _ a2 [.int .i64 a2] from rfl) (Reps.none _ _))))); intro v133 w47 ho48 hb hg_ hnew_; clear hg_ hnew_; (first | rw [← Ny132.out] at ho48 | (simp only [Int.reduceToNat] at ho48; rw [← Ny132.out] at ho48)); have n0_ := Aside0.mk (Kd.R_lower ho48 (below_size (by repeat (first | (with_reducible first | exact HB.out | apply below_alloc | apply pw_below_drewN | apply below_drew1) | exact HB.out)))); have n1_ := Aside0.mk (below_step (by repeat (first | (with_reducible first | exact HB.out | apply below_alloc | apply pw_below_drewN | apply below_drew1) | exact HB.out)) hb); clear HB; have HO134 := n0_; have HB := n1_; clear n0_ n1_; clear hb ho48; obtain ⟨Ao49, co49, eo49⟩ := Kd.R_slice HO134.out; subst eo49) | ((with_reducible refine gate_callee (f := 11) rfl ?_); refine goesL_ (some 23) rfl rfl Try.func11 (by kernel_rfl) rfl #[.slice Ao49 y132.length co49] rfl (by (try simp only [List.map_toArray, List.map_cons, List.map_nil]); first | done | rfl | (simp only [List.length_drop, List.length_take]; rfl)) ?_; (with_reducible refine (fixed_Is.calls k _ _ y132 false _ ?side1 ?side2 A4.out).mono ?_); (case side1 => repeat (first | exact (Kd.R_reads' HO134.out).2.2 | (with_reducible refine Kd.C_alloc ?_ _) | (with_reducible refine Kd.C_drewN ?_ _) | (with_reducible refine Kd.C_drew ?_))); (case side2 => exact (Kd.R_reads' HO134.out).2.1); rintro e w' ⟨rfl, ⟨nd, rfl⟩⟩; refine ⟨_, rfl, ?_⟩) | ((with_reducible refine gate_callee (f := 9) rfl ?_); refine goesL_ (some 29) rfl rfl Try.func9 (by kernel_rfl) rfl #[.int .i64 a0, .int .i64 a1, .int .i64 a2] rfl (by (try simp only [List.map_toArray, List.map_cons, List.map_nil]); first | done | rfl | (simp only [List.length_drop, List.length_take]; rfl)) ?_; (with_reducible refine (fixed_MulDiv.calls a0 a1 a2 t136 t137 _ A39.out).mono ?_); rintro e w50 ⟨rfl, hb⟩; refine ⟨_, rfl, ?_⟩; have n0_ := Aside0.mk (Kd.R_below (by (with_reducible repeat (first | apply Kd.R_alloc | apply Kd.R_drewN | apply Kd.R_drew)); exact HO134.out) hb); have n1_ := Aside0.mk (below_step (by repeat (first | (with_reducible first | exact HB.out | apply below_alloc | apply pw_below_drewN | apply below_drew1) | exact HB.out)) hb); clear HO134; clear HB; have HO134 := n0_; have HB := n1_; clear n0_ n1_; (try clear hb); (try clear hb2); (try clear hk); (try clear hi)) | ((with_reducible refine gate_callee (f := 10) rfl ?_); refine goesL_ (some 32) rfl rfl Try.func10 (by kernel_rfl) rfl #[] rfl (by (try simp only [List.map_toArray, List.map_cons, List.map_nil]); first | done | rfl | (simp only [List.length_drop, List.length_take]; rfl)) ?_; (with_reducible refine (vinculumlaw01_checked.calls k  false _ A40.out).mono ?_); rintro e w51 ⟨rfl, hb⟩; refine ⟨_, rfl, ?_⟩; have n0_ := Aside0.mk (Kd.R_below (by (with_reducible repeat (first | apply Kd.R_alloc | apply Kd.R_drewN | apply Kd.R_drew)); exact HO134.out) hb); have n1_ := Aside0.mk (below_step (by repeat (first | (with_reducible first | exact HB.out | apply below_alloc | apply pw_below_drewN | apply below_drew1) | exact HB.out)) hb); clear HO134; clear HB; have HO134 := n0_; have HB := n1_; clear n0_ n1_; (try clear hb); (try clear hb2); (try clear hk); (try clear hi)))
      go_ret
      exact ⟨by first | rfl | (simp [errW_none, errW_some] <;> rfl) | (simp [*, errW_none, errW_some] <;> rfl), by repeat (first | (with_reducible first | exact HB.out | apply below_alloc | apply pw_below_drewN | apply below_drew1) | exact HB.out)⟩

/-- THE ONE PURE STATEMENT of vinculumlaw01_FixedTurns: yours. -/
def vinculumlaw01_FixedTurns.Pure : Prop := ∀ (a0 : Int) (a1 : Int) (a2 : Int), (Lit.int .i64 a0).wf = true → (Lit.int .i64 a1).wf = true → (Lit.int .i64 a2).wf = true → ∃ k, vinculumlaw01_FixedTurns.f k a0 a1 a2 = some true
theorem vinculumlaw01_FixedTurns.walk (P : vinculumlaw01_FixedTurns.Pure) (a0 : Int) (a1 : Int) (a2 : Int) (w : World) (w0 : (Lit.int .i64 a0).wf = true) (w1 : (Lit.int .i64 a1).wf = true) (w2 : (Lit.int .i64 a2).wf = true) :
    Calls Try.prog 4 #[.int .i64 a0, .int .i64 a1, .int .i64 a2] w fun e w' => e = .returned (.bool true) ∧ Below w.heap.size w w' := by
  obtain ⟨k, h⟩ := P a0 a1 a2 w0 w1 w2
  refine (vinculumlaw01_FixedTurns.calls k a0 a1 a2 true w h).mono ?_
  rintro e w' ⟨rfl, hd⟩
  exact ⟨rfl, hd⟩

end Go.Proofs.Ytlfahjjmpkpngaa.P
