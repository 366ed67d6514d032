/- A part of the proof of the law SegmentDoes: the words, contracts and plain facts that it needs, no more. Each says its own condition. -/
import Derived.Test.YtgifenlfklbdgaaZSegmentDoesg
import Derived.Test.YtgifenlfklbdgaaZSegmentDoesab
import Derived.Test.YtgifenlfklbdgaaZSegmentDoesag
import Derived.Test.YtgifenlfklbdgaaZSegmentDoesan
section
namespace Go.Proofs.Ytgifenlfklbdgaa.P
open Go.RowKit Go.Proofs.YtgifenlfklbdgaaW.PrintWords Go.Proofs.YtgifenlfklbdgaaW.PrintLast Go.Proofs.YtgifenlfklbdgaaW.PrintMore
attribute [local go_sem] max2_int min2_int max_two min_two max_three min_three max_four min_four
set_option linter.unusedVariables false
set_option linter.unusedSimpArgs false
def vinculumlaw09_parted.f (k : Nat)  : Option (Bool) := (some (([(⟨65, 70, 3, 1⟩ : S42), (⟨80, 81, 9, 0⟩ : S42)] : List (S42)) : List (S42))).bind fun y712 => ((segment_Put.f y712).bind fun bt715 => ((segment_Get.f bt715.1).bind fun bt717 => ((segment_Many.f y712).bind fun bt721 => (if 0 ≤ (wrap64 ((bt715.1.size : Int) / 2)) then (if (wrap64 ((bt715.1.size : Int) / 2)) ≤ (bt715.1.size : Int) then ((segment_Get.f (bt715.1.extract 0 ((wrap64 ((bt715.1.size : Int) / 2)) : Int).toNat)).bind fun bt724 => (if bt715.2 = 0 then (if (bt715.1.size : Int) = 44 then (if bt717.2 = bt715.2 then ((vinculumref08_Same.f k bt717.1 (([(⟨65, 70, 3, 1⟩ : S42), (⟨80, 80, 9, 1⟩ : S42), (⟨81, 81, 9, 1⟩ : S42), (⟨65535, 65535, 0, 1⟩ : S42)] : List (S42)))).bind fun t731 => (if t731 = true then (if bt721.2.2 = bt715.2 then (if bt721.1 = 3 then (if bt721.2.1 = 2 then (some (bt724.2 == 4)) else (some false)) else (some false)) else (some false)) else (some false))) else (some false)) else (some false)) else (some false))) else (none)) else (none)))))
end Go.Proofs.Ytgifenlfklbdgaa.P
end
section
namespace Go.Proofs.Ytgifenlfklbdgaa.P
open Go.RowKit Go.Proofs.YtgifenlfklbdgaaW.PrintWords Go.Proofs.YtgifenlfklbdgaaW.PrintLast Go.Proofs.YtgifenlfklbdgaaW.PrintMore
attribute [local go_sem] max2_int min2_int max_two min_two max_three min_three max_four min_four
set_option linter.unusedVariables false
set_option linter.unusedSimpArgs false
set_option maxHeartbeats 8000000 in
set_option maxRecDepth 100000 in
theorem vinculumlaw09_parted.callsT (k : Nat)  (w : World) (h : vinculumlaw09_parted.f k  = some true) :
    Calls Try.prog 55 #[] w fun e w' => e = .returned (.bool true) ∧ Below w.heap.size w w' := by
  have hu42 := Try.underlying42
  have HB := Aside0.mk (Below.refl w.heap.size w)
  have H : ((some (([(⟨65, 70, 3, 1⟩ : S42), (⟨80, 81, 9, 0⟩ : S42)] : List (S42)) : List (S42))).bind fun y712 => ((segment_Put.f y712).bind fun bt715 => ((segment_Get.f bt715.1).bind fun bt717 => ((segment_Many.f y712).bind fun bt721 => (if 0 ≤ (wrap64 ((bt715.1.size : Int) / 2)) then (if (wrap64 ((bt715.1.size : Int) / 2)) ≤ (bt715.1.size : Int) then ((segment_Get.f (bt715.1.extract 0 ((wrap64 ((bt715.1.size : Int) / 2)) : Int).toNat)).bind fun bt724 => (if bt715.2 = 0 then (if (bt715.1.size : Int) = 44 then (if bt717.2 = bt715.2 then ((vinculumref08_Same.f k bt717.1 (([(⟨65, 70, 3, 1⟩ : S42), (⟨80, 80, 9, 1⟩ : S42), (⟨81, 81, 9, 1⟩ : S42), (⟨65535, 65535, 0, 1⟩ : S42)] : List (S42)))).bind fun t731 => (if t731 = true then (if bt721.2.2 = bt715.2 then (if bt721.1 = 3 then (if bt721.2.1 = 2 then (some (bt724.2 == 4)) else (some false)) else (some false)) else (some false)) else (some false))) else (some false)) else (some false)) else (some false))) else (none)) else (none)))))) = some true := h
  clear h
  obtain ⟨y712, hy712⟩ : ∃ y_ : List (S42), y_ = (([(⟨65, 70, 3, 1⟩ : S42), (⟨80, 81, 9, 0⟩ : S42)] : List (S42))) := ⟨_, rfl⟩
  replace H : ((segment_Put.f y712).bind fun bt715 => ((segment_Get.f bt715.1).bind fun bt717 => ((segment_Many.f y712).bind fun bt721 => (if 0 ≤ (wrap64 ((bt715.1.size : Int) / 2)) then (if (wrap64 ((bt715.1.size : Int) / 2)) ≤ (bt715.1.size : Int) then ((segment_Get.f (bt715.1.extract 0 ((wrap64 ((bt715.1.size : Int) / 2)) : Int).toNat)).bind fun bt724 => (if bt715.2 = 0 then (if (bt715.1.size : Int) = 44 then (if bt717.2 = bt715.2 then ((vinculumref08_Same.f k bt717.1 (([(⟨65, 70, 3, 1⟩ : S42), (⟨80, 80, 9, 1⟩ : S42), (⟨81, 81, 9, 1⟩ : S42), (⟨65535, 65535, 0, 1⟩ : S42)] : List (S42)))).bind fun t731 => (if t731 = true then (if bt721.2.2 = bt715.2 then (if bt721.1 = 3 then (if bt721.2.1 = 2 then (some (bt724.2 == 4)) else (some false)) else (some false)) else (some false)) else (some false))) else (some false)) else (some false)) else (some false))) else (none)) else (none))))) = some true := by first | (rw [hy712]; with_reducible exact H) | (have H2_ := (Option.bind_some _ _).symm.trans H; rw [hy712]; with_reducible exact H2_) | (have H2_ := (Option.bind_some _ _).symm.trans H; with_reducible exact H2_) | with_reducible exact H | (rw [hy712]; exact H) | exact H
  have Ny712 := Aside0.mk hy712
  clear hy712
  replace H := Option.bind_eq_some_iff.mp H
  obtain ⟨⟨t715, t716⟩, A10, H⟩ := H
  replace H : ((segment_Get.f t715).bind fun bt717 => ((segment_Many.f y712).bind fun bt721 => (if 0 ≤ (wrap64 ((t715.size : Int) / 2)) then (if (wrap64 ((t715.size : Int) / 2)) ≤ (t715.size : Int) then ((segment_Get.f (t715.extract 0 ((wrap64 ((t715.size : Int) / 2)) : Int).toNat)).bind fun bt724 => (if t716 = 0 then (if (t715.size : Int) = 44 then (if bt717.2 = t716 then ((vinculumref08_Same.f k bt717.1 (([(⟨65, 70, 3, 1⟩ : S42), (⟨80, 80, 9, 1⟩ : S42), (⟨81, 81, 9, 1⟩ : S42), (⟨65535, 65535, 0, 1⟩ : S42)] : List (S42)))).bind fun t731 => (if t731 = true then (if bt721.2.2 = t716 then (if bt721.1 = 3 then (if bt721.2.1 = 2 then (some (bt724.2 == 4)) else (some false)) else (some false)) else (some false)) else (some false))) else (some false)) else (some false)) else (some false))) else (none)) else (none)))) = some true := H
  have A1 := Aside0.mk A10
  clear A10
  replace H := Option.bind_eq_some_iff.mp H
  obtain ⟨⟨t717, t718⟩, A20, H⟩ := H
  replace H : ((segment_Many.f y712).bind fun bt721 => (if 0 ≤ (wrap64 ((t715.size : Int) / 2)) then (if (wrap64 ((t715.size : Int) / 2)) ≤ (t715.size : Int) then ((segment_Get.f (t715.extract 0 ((wrap64 ((t715.size : Int) / 2)) : Int).toNat)).bind fun bt724 => (if t716 = 0 then (if (t715.size : Int) = 44 then (if t718 = t716 then ((vinculumref08_Same.f k t717 (([(⟨65, 70, 3, 1⟩ : S42), (⟨80, 80, 9, 1⟩ : S42), (⟨81, 81, 9, 1⟩ : S42), (⟨65535, 65535, 0, 1⟩ : S42)] : List (S42)))).bind fun t731 => (if t731 = true then (if bt721.2.2 = t716 then (if bt721.1 = 3 then (if bt721.2.1 = 2 then (some (bt724.2 == 4)) else (some false)) else (some false)) else (some false)) else (some false))) else (some false)) else (some false)) else (some false))) else (none)) else (none))) = some true := H
  have A2 := Aside0.mk A20
  clear A20
  replace H := Option.bind_eq_some_iff.mp H
  obtain ⟨⟨t721, t722, t723⟩, A30, H⟩ := H
  replace H : (if 0 ≤ (wrap64 ((t715.size : Int) / 2)) then (if (wrap64 ((t715.size : Int) / 2)) ≤ (t715.size : Int) then ((segment_Get.f (t715.extract 0 ((wrap64 ((t715.size : Int) / 2)) : Int).toNat)).bind fun bt724 => (if t716 = 0 then (if (t715.size : Int) = 44 then (if t718 = t716 then ((vinculumref08_Same.f k t717 (([(⟨65, 70, 3, 1⟩ : S42), (⟨80, 80, 9, 1⟩ : S42), (⟨81, 81, 9, 1⟩ : S42), (⟨65535, 65535, 0, 1⟩ : S42)] : List (S42)))).bind fun t731 => (if t731 = true then (if t723 = t716 then (if t721 = 3 then (if t722 = 2 then (some (bt724.2 == 4)) else (some false)) else (some false)) else (some false)) else (some false))) else (some false)) else (some false)) else (some false))) else (none)) else (none)) = some true := H
  have A3 := Aside0.mk A30
  clear A30
  obtain ⟨ji4, hji4⟩ : ∃ j_ : Int, (wrap64 ((t715.size : Int) / 2)) = j_ := ⟨_, rfl⟩
  replace H : (if 0 ≤ (ji4) then (if (ji4) ≤ (t715.size : Int) then ((segment_Get.f (t715.extract 0 ((ji4) : Int).toNat)).bind fun bt724 => (if t716 = 0 then (if (t715.size : Int) = 44 then (if t718 = t716 then ((vinculumref08_Same.f k t717 (([(⟨65, 70, 3, 1⟩ : S42), (⟨80, 80, 9, 1⟩ : S42), (⟨81, 81, 9, 1⟩ : S42), (⟨65535, 65535, 0, 1⟩ : S42)] : List (S42)))).bind fun t731 => (if t731 = true then (if t723 = t716 then (if t721 = 3 then (if t722 = 2 then (some (bt724.2 == 4)) else (some false)) else (some false)) else (some false)) else (some false))) else (some false)) else (some false)) else (some false))) else (none)) else (none)) = some true := by first | (rw [hji4] at H; exact H) | (simp only [hji4] at H ⊢; exact H)
  (try rw [hji4] at A1)
  (try rw [hji4] at A2)
  (try rw [hji4] at A3)
  have hji4w : (IntKind.i64.wrap ((t715.size : Int) / 2)) = ji4 := (i64_w _).trans hji4
  by_cases c5 : 0 ≤ (ji4)
  · rw [if_pos c5] at H
    have c5b0 := eq_true c5
    have c5b1 : decide (0 ≤ (ji4)) = true := decide_eq_true c5
    clear c5
    by_cases c6 : (ji4) ≤ (t715.size : Int)
    · rw [if_pos c6] at H
      have c6b0 := eq_true c6
      have c6b1 : decide ((ji4) ≤ (t715.size : Int)) = true := decide_eq_true c6
      clear c6
      replace H := Option.bind_eq_some_iff.mp H
      obtain ⟨⟨t724, t725⟩, A70, H⟩ := H
      replace H : (if t716 = 0 then (if (t715.size : Int) = 44 then (if t718 = t716 then ((vinculumref08_Same.f k t717 (([(⟨65, 70, 3, 1⟩ : S42), (⟨80, 80, 9, 1⟩ : S42), (⟨81, 81, 9, 1⟩ : S42), (⟨65535, 65535, 0, 1⟩ : S42)] : List (S42)))).bind fun t731 => (if t731 = true then (if t723 = t716 then (if t721 = 3 then (if t722 = 2 then (some (t725 == 4)) else (some false)) else (some false)) else (some false)) else (some false))) else (some false)) else (some false)) else (some false)) = some true := H
      have A7 := Aside0.mk A70
      clear A70
      obtain ⟨y728, hy728⟩ : ∃ y_ : List (S42), y_ = (([(⟨65, 70, 3, 1⟩ : S42), (⟨80, 80, 9, 1⟩ : S42), (⟨81, 81, 9, 1⟩ : S42), (⟨65535, 65535, 0, 1⟩ : S42)] : List (S42))) := ⟨_, rfl⟩
      replace H : (if t716 = 0 then (if (t715.size : Int) = 44 then (if t718 = t716 then ((vinculumref08_Same.f k t717 y728).bind fun t731 => (if t731 = true then (if t723 = t716 then (if t721 = 3 then (if t722 = 2 then (some (t725 == 4)) else (some false)) else (some false)) else (some false)) else (some false))) else (some false)) else (some false)) else (some false)) = some true := by first | (rw [hy728]; with_reducible exact H) | (have H2_ := (Option.bind_some _ _).symm.trans H; rw [hy728]; with_reducible exact H2_) | (have H2_ := (Option.bind_some _ _).symm.trans H; with_reducible exact H2_) | with_reducible exact H | (rw [hy728]; exact H) | exact H
      have Ny728 := Aside0.mk hy728
      clear hy728
      by_cases c8 : t716 = 0
      · rw [if_pos c8] at H
        have c8b0 : (t716 == 0) = true := beq_iff_eq.mpr c8
        have c8b1 : (t716 != 0) = false := bne_eq_false_iff_eq.mpr c8
        clear c8
        by_cases c9 : (t715.size : Int) = 44
        · rw [if_pos c9] at H
          have c9b0 : ((t715.size : Int) == 44) = true := beq_iff_eq.mpr c9
          have c9b1 : ((t715.size : Int) != 44) = false := bne_eq_false_iff_eq.mpr c9
          clear c9
          by_cases c10 : t718 = t716
          · rw [if_pos c10] at H
            have c10b0 : (t718 == t716) = true := beq_iff_eq.mpr c10
            have c10b1 : (t718 != t716) = false := bne_eq_false_iff_eq.mpr c10
            clear c10
            replace H := Option.bind_eq_some_iff.mp H
            obtain ⟨t731, A110, H⟩ := H
            replace H : (if t731 = true then (if t723 = t716 then (if t721 = 3 then (if t722 = 2 then (some (t725 == 4)) else (some false)) else (some false)) else (some false)) else (some false)) = some true := H
            have A11 := Aside0.mk A110
            clear A110
            by_cases c12 : t731 = true
            · subst c12
              have H1 : (if t723 = t716 then (if t721 = 3 then (if t722 = 2 then (some (t725 == 4)) else (some false)) else (some false)) else (some false)) = some true := by rw [if_pos rfl] at H; exact H
              clear H
              have H := H1
              clear H1
              by_cases c13 : t723 = t716
              · rw [if_pos c13] at H
                have c13b0 : (t723 == t716) = true := beq_iff_eq.mpr c13
                have c13b1 : (t723 != t716) = false := bne_eq_false_iff_eq.mpr c13
                clear c13
                by_cases c14 : t721 = 3
                · rw [if_pos c14] at H
                  have c14b0 : (t721 == 3) = true := beq_iff_eq.mpr c14
                  have c14b1 : (t721 != 3) = false := bne_eq_false_iff_eq.mpr c14
                  clear c14
                  by_cases c15 : t722 = 2
                  · rw [if_pos c15] at H
                    have c15b0 : (t722 == 2) = true := beq_iff_eq.mpr c15
                    have c15b1 : (t722 != 2) = false := bne_eq_false_iff_eq.mpr c15
                    clear c15
                    have hE_ := Option.some.inj H
                    go_enter Try.func55, Try.ntmps55
                    go_wp2_with (first | ((with_reducible refine gate_dst (N := 14) rfl ?_); (try (refine gate_guard (by rfl) ?_; dsimp only)); refine Kd.R_lit k42 _ 42 ?hg (N := 14) ?hd (xs := ([(⟨65, 70, 3, 1⟩ : S42), (⟨80, 81, 9, 0⟩ : S42)] : List (S42))) (inner := [.int .i64 65, .int .i64 70, .int .i64 3, .int .i64 1, .int .i64 80, .int .i64 81, .int .i64 9, .int .i64 0]) (ok := fun _ => True) (okp := fun _ => True) ?hr ?hp (fun _ hk => hk) trivial (Below.refl _ _) (Nat.le_refl _) (by simp) ?_; (case hd => rfl); (case hg => rfl); (case hr => first | (go_simp; done) | (go_simp; rfl)); (case hp => exact (Reps.c4 (show Kd.M k42 _ _ _ (⟨65, 70, 3, 1⟩ : S42) [.int .i64 65, .int .i64 70, .int .i64 3, .int .i64 1] from (k42_mkM _ _ _ (⟨65, 70, 3, 1⟩ : S42) )) (Reps.c4 (show Kd.M k42 _ _ _ (⟨80, 81, 9, 0⟩ : S42) [.int .i64 80, .int .i64 81, .int .i64 9, .int .i64 0] from (k42_mkM _ _ _ (⟨80, 81, 9, 0⟩ : S42) )) (Reps.none _ _)))); intro v713 w16 ho17 hb hg_ hnew_; clear hg_ hnew_; (first | rw [← Ny712.out] at ho17 | (simp only [Int.reduceToNat] at ho17; rw [← Ny712.out] at ho17)); have n0_ := Aside0.mk (Kd.R_lower ho17 (below_size (by repeat (first | (with_reducible first | exact HB.out | apply below_alloc | apply pw_below_drewN | apply below_drew1) | exact HB.out)))); have n1_ := Aside0.mk (below_step (by repeat (first | (with_reducible first | exact HB.out | apply below_alloc | apply pw_below_drewN | apply below_drew1) | exact HB.out)) hb); clear HB; have HO714 := n0_; have HB := n1_; clear n0_ n1_; clear hb ho17; obtain ⟨Ao18, co18, eo18⟩ := Kd.R_slice HO714.out; subst eo18) | ((with_reducible refine gate_callee (f := 51) rfl ?_); refine goesL_ (some 17) rfl rfl Try.func51 (by kernel_rfl) rfl #[.slice Ao18 y712.length co18] rfl (by (try simp only [List.map_toArray, List.map_cons, List.map_nil]); first | done | rfl | (simp only [List.length_drop, List.length_take]; rfl)) ?_; (with_reducible refine (segment_Put.calls _ _ y712 t715 t716 _ ?side1 ?side2 A1.out).mono ?_); (case side1 => repeat (first | exact (Kd.R_reads' HO714.out).2.2 | (with_reducible refine Kd.C_alloc ?_ _) | (with_reducible refine Kd.C_drewN ?_ _) | (with_reducible refine Kd.C_drew ?_))); (case side2 => exact (Kd.R_reads' HO714.out).2.1); rintro e w19 ⟨rfl, hb⟩; refine ⟨_, rfl, ?_⟩; have n0_ := Aside0.mk (Kd.R_below (by (with_reducible repeat (first | apply Kd.R_alloc | apply Kd.R_drewN | apply Kd.R_drew)); exact HO714.out) hb); have n1_ := Aside0.mk (below_step (by repeat (first | (with_reducible first | exact HB.out | apply below_alloc | apply pw_below_drewN | apply below_drew1) | exact HB.out)) hb); clear HO714; clear HB; have HO714 := n0_; have HB := n1_; clear n0_ n1_; (try clear hb); (try clear hb2); (try clear hk); (try clear hi)) | ((with_reducible refine gate_callee (f := 49) rfl ?_); refine goesL_ (some 22) rfl rfl Try.func49 (by kernel_rfl) rfl #[.string t715] rfl (by (try simp only [List.map_toArray, List.map_cons, List.map_nil]); first | done | rfl | (simp only [List.length_drop, List.length_take]; rfl)) ?_; (with_reducible refine (segment_Get.calls t715 t717 t718 _ A2.out).mono ?_); rintro e w20 ⟨v719, rfl, ho0, hb⟩; refine ⟨_, rfl, ?_⟩; have n0_ := Aside0.mk (Kd.R_elder' (by (with_reducible repeat (first | apply Kd.R_alloc | apply Kd.R_drewN | apply Kd.R_drew)); exact HO714.out) (Kd.R_base ho0) hb); have n1_ := Aside0.mk (Kd.R_lower (Kd.R_new' ho0 (Kd.R_lt (by (with_reducible repeat (first | apply Kd.R_alloc | apply Kd.R_drewN | apply Kd.R_drew)); exact HO714.out))) (below_size (by repeat (first | (with_reducible first | exact HB.out | apply below_alloc | apply pw_below_drewN | apply below_drew1) | exact HB.out)))); have n2_ := Aside0.mk (below_step (by repeat (first | (with_reducible first | exact HB.out | apply below_alloc | apply pw_below_drewN | apply below_drew1) | exact HB.out)) hb); clear HO714; clear HB; have HO714 := n0_; have HO720 := n1_; have HB := n2_; clear n0_ n1_ n2_; (try clear hb); (try clear hb2); (try clear hk); (try clear hi); (try clear ho0)) | ((with_reducible refine gate_callee (f := 53) rfl ?_); refine goesL_ (some 27) rfl rfl Try.func53 (by kernel_rfl) rfl #[.slice Ao18 y712.length co18] rfl (by (try simp only [List.map_toArray, List.map_cons, List.map_nil]); first | done | rfl | (simp only [List.length_drop, List.length_take]; rfl)) ?_; (with_reducible refine (segment_Many.calls _ _ y712 t721 t722 t723 _ ?side1 ?side2 A3.out).mono ?_); (case side1 => repeat (first | exact (Kd.R_reads' HO714.out).2.2 | (with_reducible refine Kd.C_alloc ?_ _) | (with_reducible refine Kd.C_drewN ?_ _) | (with_reducible refine Kd.C_drew ?_))); (case side2 => exact (Kd.R_reads' HO714.out).2.1); rintro e w21 ⟨rfl, hb⟩; refine ⟨_, rfl, ?_⟩; have n0_ := Aside0.mk (Kd.R_below (by (with_reducible repeat (first | apply Kd.R_alloc | apply Kd.R_drewN | apply Kd.R_drew)); exact HO714.out) hb); have n1_ := Aside0.mk (Kd.R_below (by (with_reducible repeat (first | apply Kd.R_alloc | apply Kd.R_drewN | apply Kd.R_drew)); exact HO720.out) hb); have n2_ := Aside0.mk (below_step (by repeat (first | (with_reducible first | exact HB.out | apply below_alloc | apply pw_below_drewN | apply below_drew1) | exact HB.out)) hb); clear HO714; clear HO720; clear HB; have HO714 := n0_; have HO720 := n1_; have HB := n2_; clear n0_ n1_ n2_; (try clear hb); (try clear hb2); (try clear hk); (try clear hi)) | ((with_reducible refine gate_callee (f := 49) rfl ?_); refine goesL_ (some 37) rfl rfl Try.func49 (by kernel_rfl) rfl #[.string (t715.extract 0 ((ji4) : Int).toNat)] rfl (by (try simp only [List.map_toArray, List.map_cons, List.map_nil]); first | done | (simp only [hji4]; rfl) | rfl | (simp only [List.length_drop, List.length_take]; rfl)) ?_; (with_reducible refine (segment_Get.calls (t715.extract 0 ((ji4) : Int).toNat) t724 t725 _ A7.out).mono ?_); rintro e w22 ⟨v726, rfl, ho0, hb⟩; refine ⟨_, rfl, ?_⟩; have n0_ := Aside0.mk (Kd.R_elder' (by (with_reducible repeat (first | apply Kd.R_alloc | apply Kd.R_drewN | apply Kd.R_drew)); exact HO714.out) (Kd.R_base ho0) hb); have n1_ := Aside0.mk (Kd.R_elder' (by (with_reducible repeat (first | apply Kd.R_alloc | apply Kd.R_drewN | apply Kd.R_drew)); exact HO720.out) (Kd.R_base ho0) hb); have n2_ := Aside0.mk (Kd.R_lower (Kd.R_new' (Kd.R_new' ho0 (Kd.R_lt (by (with_reducible repeat (first | apply Kd.R_alloc | apply Kd.R_drewN | apply Kd.R_drew)); exact HO714.out))) (Kd.R_lt (by (with_reducible repeat (first | apply Kd.R_alloc | apply Kd.R_drewN | apply Kd.R_drew)); exact HO720.out))) (below_size (by repeat (first | (with_reducible first | exact HB.out | apply below_alloc | apply pw_below_drewN | apply below_drew1) | exact HB.out)))); have n3_ := Aside0.mk (below_step (by repeat (first | (with_reducible first | exact HB.out | apply below_alloc | apply pw_below_drewN | apply below_drew1) | exact HB.out)) hb); clear HO714; clear HO720; clear HB; have HO714 := n0_; have HO720 := n1_; have HO727 := n2_; have HB := n3_; clear n0_ n1_ n2_ n3_; (try clear hb); (try clear hb2); (try clear hk); (try clear hi); (try clear ho0)) | ((with_reducible refine gate_dst (N := 44) rfl ?_); (try (refine gate_guard (by rfl) ?_; dsimp only)); refine Kd.R_lit k42 _ 42 ?hg (N := 44) ?hd (xs := ([(⟨65, 70, 3, 1⟩ : S42), (⟨80, 80, 9, 1⟩ : S42), (⟨81, 81, 9, 1⟩ : S42), (⟨65535, 65535, 0, 1⟩ : S42)] : List (S42))) (inner := [.int .i64 65, .int .i64 70, .int .i64 3, .int .i64 1, .int .i64 80, .int .i64 80, .int .i64 9, .int .i64 1, .int .i64 81, .int .i64 81, .int .i64 9, .int .i64 1, .int .i64 65535, .int .i64 65535, .int .i64 0, .int .i64 1]) (ok := fun _ => True) (okp := fun _ => True) ?hr ?hp (fun _ hk => hk) trivial (Below.refl _ _) (Nat.le_refl _) (by simp) ?_; (case hd => rfl); (case hg => rfl); (case hr => first | (go_simp; done) | (go_simp; rfl)); (case hp => exact (Reps.c4 (show Kd.M k42 _ _ _ (⟨65, 70, 3, 1⟩ : S42) [.int .i64 65, .int .i64 70, .int .i64 3, .int .i64 1] from (k42_mkM _ _ _ (⟨65, 70, 3, 1⟩ : S42) )) (Reps.c4 (show Kd.M k42 _ _ _ (⟨80, 80, 9, 1⟩ : S42) [.int .i64 80, .int .i64 80, .int .i64 9, .int .i64 1] from (k42_mkM _ _ _ (⟨80, 80, 9, 1⟩ : S42) )) (Reps.c4 (show Kd.M k42 _ _ _ (⟨81, 81, 9, 1⟩ : S42) [.int .i64 81, .int .i64 81, .int .i64 9, .int .i64 1] from (k42_mkM _ _ _ (⟨81, 81, 9, 1⟩ : S42) )) (Reps.c4 (show Kd.M k42 _ _ _ (⟨65535, 65535, 0, 1⟩ : S42) [.int .i64 65535, .int .i64 65535, .int .i64 0, .int .i64 1] from (k42_mkM _ _ _ (⟨65535, 65535, 0, 1⟩ : S42) )) (Reps.none _ _)))))); intro v729 w23 ho24 hb hg_ hnew_; clear hg_ hnew_; (first | rw [← Ny728.out] at ho24 | (simp only [Int.reduceToNat] at ho24; rw [← Ny728.out] at ho24)); have n0_ := Aside0.mk (Kd.R_elder' (by (with_reducible repeat (first | apply Kd.R_alloc | apply Kd.R_drewN | apply Kd.R_drew)); exact HO714.out) (Kd.R_base ho24) hb); have n1_ := Aside0.mk (Kd.R_elder' (by (with_reducible repeat (first | apply Kd.R_alloc | apply Kd.R_drewN | apply Kd.R_drew)); exact HO720.out) (Kd.R_base ho24) hb); have n2_ := Aside0.mk (Kd.R_elder' (by (with_reducible repeat (first | apply Kd.R_alloc | apply Kd.R_drewN | apply Kd.R_drew)); exact HO727.out) (Kd.R_base ho24) hb); have n3_ := Aside0.mk (Kd.R_lower (Kd.R_new' (Kd.R_new' (Kd.R_new' ho24 (Kd.R_lt (by (with_reducible repeat (first | apply Kd.R_alloc | apply Kd.R_drewN | apply Kd.R_drew)); exact HO714.out))) (Kd.R_lt (by (with_reducible repeat (first | apply Kd.R_alloc | apply Kd.R_drewN | apply Kd.R_drew)); exact HO720.out))) (Kd.R_lt (by (with_reducible repeat (first | apply Kd.R_alloc | apply Kd.R_drewN | apply Kd.R_drew)); exact HO727.out))) (below_size (by repeat (first | (with_reducible first | exact HB.out | apply below_alloc | apply pw_below_drewN | apply below_drew1) | exact HB.out)))); have n4_ := Aside0.mk (below_step (by repeat (first | (with_reducible first | exact HB.out | apply below_alloc | apply pw_below_drewN | apply below_drew1) | exact HB.out)) hb); clear HO714; clear HO720; clear HO727; clear HB; have HO714 := n0_; have HO720 := n1_; have HO727 := n2_; have HO730 := n3_; have HB := n4_; clear n0_ n1_ n2_ n3_ n4_; clear hb ho24; obtain ⟨Ao25, co25, eo25⟩ := Kd.R_slice HO720.out; subst eo25; obtain ⟨Ao26, co26, eo26⟩ := Kd.R_slice HO730.out; subst eo26) | (go_at_call 26; (with_reducible refine (vinculumref08_Same.calls k _ _ t717 _ _ y728 true _ ?side1 ?side2 ?side3 ?side4 A11.out).mono ?_); (case side1 => repeat (first | exact (Kd.R_reads' HO720.out).2.2 | (with_reducible refine Kd.C_alloc ?_ _) | (with_reducible refine Kd.C_drewN ?_ _) | (with_reducible refine Kd.C_drew ?_))); (case side2 => exact (Kd.R_reads' HO720.out).2.1); (case side3 => repeat (first | exact (Kd.R_reads' HO730.out).2.2 | (with_reducible refine Kd.C_alloc ?_ _) | (with_reducible refine Kd.C_drewN ?_ _) | (with_reducible refine Kd.C_drew ?_))); (case side4 => exact (Kd.R_reads' HO730.out).2.1); rintro e w' ⟨rfl, ⟨nd, rfl⟩⟩))
                    go_ret
                    exact ⟨by first | rfl | (simp [errW_none, errW_some] <;> rfl) | (simp only [← hji4]; first | rfl | (simp [errW_none, errW_some] <;> rfl)) | (simp [*, errW_none, errW_some] <;> rfl), by repeat (first | (with_reducible first | exact HB.out | apply below_alloc | apply pw_below_drewN | apply below_drew1) | exact HB.out)⟩
                  · rw [if_neg c15] at H
                    have c15b0 : (t722 == 2) = false := beq_eq_false_iff_ne.mpr c15
                    have c15b1 : (t722 != 2) = true := bne_iff_ne.mpr c15
                    exact absurd (Option.some.inj H) (by decide)
                · rw [if_neg c14] at H
                  have c14b0 : (t721 == 3) = false := beq_eq_false_iff_ne.mpr c14
                  have c14b1 : (t721 != 3) = true := bne_iff_ne.mpr c14
                  exact absurd (Option.some.inj H) (by decide)
              · rw [if_neg c13] at H
                have c13b0 : (t723 == t716) = false := beq_eq_false_iff_ne.mpr c13
                have c13b1 : (t723 != t716) = true := bne_iff_ne.mpr c13
                exact absurd (Option.some.inj H) (by decide)
            · replace c12 := Bool.eq_false_iff.mpr c12
              subst c12
              have H1 : (some false) = some true := by rw [if_neg (show ¬ (false = true) by decide)] at H; exact H
              clear H
              have H := H1
              clear H1
              exact absurd (Option.some.inj H) (by decide)
          · rw [if_neg c10] at H
            have c10b0 : (t718 == t716) = false := beq_eq_false_iff_ne.mpr c10
            have c10b1 : (t718 != t716) = true := bne_iff_ne.mpr c10
            exact absurd (Option.some.inj H) (by decide)
        · rw [if_neg c9] at H
          have c9b0 : ((t715.size : Int) == 44) = false := beq_eq_false_iff_ne.mpr c9
          have c9b1 : ((t715.size : Int) != 44) = true := bne_iff_ne.mpr c9
          exact absurd (Option.some.inj H) (by decide)
      · rw [if_neg c8] at H
        have c8b0 : (t716 == 0) = false := beq_eq_false_iff_ne.mpr c8
        have c8b1 : (t716 != 0) = true := bne_iff_ne.mpr c8
        exact absurd (Option.some.inj H) (by decide)
    · rw [if_neg c6] at H
      exact absurd H (by simp)
  · rw [if_neg c5] at H
    exact absurd H (by simp)
end Go.Proofs.Ytgifenlfklbdgaa.P
end
