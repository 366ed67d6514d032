/- A part of the proof of the law SegmentDoes: the words, contracts and plain facts that it needs, no more. Each says its own condition. -/
import Derived.Test.YtgifenlfklbdgaaZSegmentDoesao
import Derived.Test.YtgifenlfklbdgaaZSegmentDoesg
import Derived.Test.YtgifenlfklbdgaaZSegmentDoesap
import Derived.Test.YtgifenlfklbdgaaZSegmentDoesaq
import Derived.Test.YtgifenlfklbdgaaZSegmentDoesab
import Derived.Test.YtgifenlfklbdgaaZSegmentDoesag
import Derived.Test.YtgifenlfklbdgaaZSegmentDoesan
namespace Go.Proofs.Ytgifenlfklbdgaa.P
open Go.RowKit Go.Proofs.YtgifenlfklbdgaaW.PrintWords Go.Proofs.YtgifenlfklbdgaaW.PrintLast Go.Proofs.YtgifenlfklbdgaaW.PrintMore
attribute [local go_sem] max2_int min2_int max_two min_two max_three min_three max_four min_four
set_option linter.unusedVariables false
set_option linter.unusedSimpArgs false
def vinculumlaw09_SegmentDoes.j0 : Nat → ByteArray → List (S42) → Bool → Option (Bool)
  | 0, _, _, _ => none
  | k + 1, x0, x1, x27 => if x27 = true then (some true) else (if ([] : List (S42)).length + x1.length < 4398046511104 then ((some (([] : List (S42)) ++ x1 : List (S42))).bind fun y733 => ((segment_Get.f x0).bind fun bt736 => ((vinculumref09_Get.f k x0).bind fun bt740 => ((segment_Put.f x1).bind fun bt744 => ((vinculumref09_Put.f k y733).bind fun bt746 => ((segment_Many.f x1).bind fun bt748 => ((vinculumref09_Many.f k y733).bind fun bt751 => ((vinculumlaw09_parted.f k).bind fun t754 => (if t754 = true then ((vinculumref08_Same.f k bt736.1 bt740.1).bind fun t755 => (if t755 = true then (if bt736.2 = bt740.2 then (if bt744.1.toList = bt746.1.toList then (if bt744.2 = bt746.2 then (if bt748.1 = bt751.1 then (if bt748.2.1 = bt751.2.1 then (if bt748.2.2 = bt751.2.2 then ((vinculumref08_Same.f k x1 y733).bind fun t756 => (some t756)) else (some false)) else (some false)) else (some false)) else (some false)) else (some false)) else (some false)) else (some false))) else (some false)))))))))) else (none))
def vinculumlaw09_SegmentDoes.f (k : Nat) (a0 : ByteArray) (l1 : List (S42)) : Option (Bool) := if (a0.size : Int) > 3000 then (vinculumlaw09_SegmentDoes.j0 k a0 l1 true) else ((vinculumref09_Short.f k l1).bind fun t732 => (vinculumlaw09_SegmentDoes.j0 k a0 l1 (!t732)))
set_option maxHeartbeats 8000000 in
set_option maxRecDepth 100000 in
theorem vinculumlaw09_SegmentDoes.calls (k : Nat) (a0 : ByteArray) (A1 : Option Addr) (c1 : Nat) (l1 : List (S42)) (w : World) (hr1 : Kd.C k42 w A1 l1.length l1) (hc1 : l1.length ≤ c1) (h : vinculumlaw09_SegmentDoes.f k a0 l1 = some true) :
    Calls Try.prog 12 #[.string a0, .slice A1 l1.length c1] w fun e w' => e = .returned (.bool true) ∧ Below w.heap.size w w' := by
  have HR1 := Aside0.mk hr1
  have HC1 := Aside0.mk hc1
  clear hr1 hc1
  have HB := Aside0.mk (Below.refl w.heap.size w)
  have H : (if (a0.size : Int) > 3000 then (vinculumlaw09_SegmentDoes.j0 k a0 l1 true) else ((vinculumref09_Short.f k l1).bind fun t732 => (vinculumlaw09_SegmentDoes.j0 k a0 l1 (!t732)))) = some true := h
  clear h
  have HC3 := Aside0.mk H
  clear H
  go_enter Try.func12, Try.ntmps12
  go_upto_region 1 with (fail)
  go_cut [27] (fun v27 wc => ∃ (kq : Nat) (x27_2 : Bool), v27 = .bool x27_2 ∧ Aside0 (vinculumlaw09_SegmentDoes.j0 kq a0 l1 x27_2 = some true) ∧ Aside0 (kq ≤ k) ∧ Aside0 (Below w.heap.size w wc))
  case first =>
    have H := HC3.out
    clear HC3
    by_cases c4 : (a0.size : Int) > 3000
    · rw [if_pos c4] at H
      have c4b0 : decide (3000 < (a0.size : Int)) = true := decide_eq_true c4
      have c4b1 : decide (3000 < a0.size) = true := decide_eq_true (by omega)
      clear c4
      (first | rw [c4b0] | (simp only [i64_w, i32_w]; rw [c4b0]) | skip)
      have H' := Aside0.mk H
      clear H
      go_wp2
      go_meet
      case rel => exact ⟨_, (true), (by first | rfl | (simp; done) | (simp [*]; done)), H', ⟨by first | omega | exact Nat.le_refl _⟩, ⟨by repeat (first | (with_reducible first | exact HB.out | apply below_alloc | apply pw_below_drewN | apply below_drew1) | exact HB.out)⟩⟩
    · rw [if_neg c4] at H
      have c4b0 : decide (3000 < (a0.size : Int)) = false := decide_eq_false c4
      have c4b1 : decide (3000 < a0.size) = false := decide_eq_false (by omega)
      clear c4
      (first | rw [c4b0] | (simp only [i64_w, i32_w]; rw [c4b0]) | skip)
      replace H := Option.bind_eq_some_iff.mp H
      obtain ⟨t732, A50, H⟩ := H
      replace H : (vinculumlaw09_SegmentDoes.j0 k a0 l1 (!t732)) = some true := H
      have A5 := Aside0.mk A50
      clear A50
      have H' := Aside0.mk H
      clear H
      go_wp2_with (first | (go_at_call 48; (with_reducible refine (vinculumref09_Short.calls k _ _ l1 t732 _ ?side1 ?side2 A5.out).mono ?_); (case side1 => repeat (first | exact (Kd.C_below HR1.out HB.out) | (with_reducible refine Kd.C_alloc ?_ _) | (with_reducible refine Kd.C_drewN ?_ _) | (with_reducible refine Kd.C_drew ?_))); (case side2 => exact HC1.out); rintro e w' ⟨rfl, ⟨nd, rfl⟩⟩))
      go_meet
      case rel => exact ⟨_, (!t732), (by first | rfl | (simp; done) | (simp [*]; done)), H', ⟨by first | omega | exact Nat.le_refl _⟩, ⟨by repeat (first | (with_reducible first | exact HB.out | apply below_alloc | apply pw_below_drewN | apply below_drew1) | exact HB.out)⟩⟩
  case rest =>
    clear HC3
    try clear c1
    try clear p2
    try clear c4
    try clear c4b0
    try clear c4b1
    obtain ⟨kq, x27_2, rfl, HA, HJ2, HB⟩ := hcut
    cases kq with
    | zero => exact absurd HA.out (by simp [vinculumlaw09_SegmentDoes.j0])
    | succ kj2 =>
      have H := HA.out
      clear HA
      simp only [vinculumlaw09_SegmentDoes.j0] at H
      by_cases c6 : x27_2 = true
      · subst c6
        have H1 : (some true) = some true := rfl
        clear H
        have H := H1
        clear H1
        go_wp2
        go_ret
        exact ⟨by first | rfl | (simp [errW_none, errW_some] <;> rfl) | (simp [*, errW_none, errW_some] <;> rfl), by repeat (first | (with_reducible first | exact HB.out | apply below_alloc | apply pw_below_drewN | apply below_drew1) | exact HB.out)⟩
      · replace c6 := Bool.eq_false_iff.mpr c6
        subst c6
        have H1 : (if ([] : List (S42)).length + l1.length < 4398046511104 then ((some (([] : List (S42)) ++ l1 : List (S42))).bind fun y733 => ((segment_Get.f a0).bind fun bt736 => ((vinculumref09_Get.f kj2 a0).bind fun bt740 => ((segment_Put.f l1).bind fun bt744 => ((vinculumref09_Put.f kj2 y733).bind fun bt746 => ((segment_Many.f l1).bind fun bt748 => ((vinculumref09_Many.f kj2 y733).bind fun bt751 => ((vinculumlaw09_parted.f kj2).bind fun t754 => (if t754 = true then ((vinculumref08_Same.f kj2 bt736.1 bt740.1).bind fun t755 => (if t755 = true then (if bt736.2 = bt740.2 then (if bt744.1.toList = bt746.1.toList then (if bt744.2 = bt746.2 then (if bt748.1 = bt751.1 then (if bt748.2.1 = bt751.2.1 then (if bt748.2.2 = bt751.2.2 then ((vinculumref08_Same.f kj2 l1 y733).bind fun t756 => (some t756)) else (some false)) else (some false)) else (some false)) else (some false)) else (some false)) else (some false)) else (some false))) else (some false)))))))))) else (none)) = some true := by rw [if_neg (show ¬ (false = true) by decide)] at H; exact H
        clear H
        have H := H1
        clear H1
        by_cases c7 : ([] : List (S42)).length + l1.length < 4398046511104
        · rw [if_pos c7] at H
          have LMc7 := Aside0.mk c7
          clear c7
          obtain ⟨y733, hy733⟩ : ∃ y_ : List (S42), y_ = (([] : List (S42)) ++ l1) := ⟨_, rfl⟩
          replace H : ((segment_Get.f a0).bind fun bt736 => ((vinculumref09_Get.f kj2 a0).bind fun bt740 => ((segment_Put.f l1).bind fun bt744 => ((vinculumref09_Put.f kj2 y733).bind fun bt746 => ((segment_Many.f l1).bind fun bt748 => ((vinculumref09_Many.f kj2 y733).bind fun bt751 => ((vinculumlaw09_parted.f kj2).bind fun t754 => (if t754 = true then ((vinculumref08_Same.f kj2 bt736.1 bt740.1).bind fun t755 => (if t755 = true then (if bt736.2 = bt740.2 then (if bt744.1.toList = bt746.1.toList then (if bt744.2 = bt746.2 then (if bt748.1 = bt751.1 then (if bt748.2.1 = bt751.2.1 then (if bt748.2.2 = bt751.2.2 then ((vinculumref08_Same.f kj2 l1 y733).bind fun t756 => (some t756)) else (some false)) else (some false)) else (some false)) else (some false)) else (some false)) else (some false)) else (some false))) else (some false))))))))) = some true := by first | (rw [hy733]; with_reducible exact H) | (have H2_ := (Option.bind_some _ _).symm.trans H; rw [hy733]; with_reducible exact H2_) | (have H2_ := (Option.bind_some _ _).symm.trans H; with_reducible exact H2_) | with_reducible exact H | (rw [hy733]; exact H) | exact H
          have Ny733 := Aside0.mk hy733
          clear hy733
          replace H := Option.bind_eq_some_iff.mp H
          obtain ⟨⟨t736, t737⟩, A80, H⟩ := H
          replace H : ((vinculumref09_Get.f kj2 a0).bind fun bt740 => ((segment_Put.f l1).bind fun bt744 => ((vinculumref09_Put.f kj2 y733).bind fun bt746 => ((segment_Many.f l1).bind fun bt748 => ((vinculumref09_Many.f kj2 y733).bind fun bt751 => ((vinculumlaw09_parted.f kj2).bind fun t754 => (if t754 = true then ((vinculumref08_Same.f kj2 t736 bt740.1).bind fun t755 => (if t755 = true then (if t737 = bt740.2 then (if bt744.1.toList = bt746.1.toList then (if bt744.2 = bt746.2 then (if bt748.1 = bt751.1 then (if bt748.2.1 = bt751.2.1 then (if bt748.2.2 = bt751.2.2 then ((vinculumref08_Same.f kj2 l1 y733).bind fun t756 => (some t756)) else (some false)) else (some false)) else (some false)) else (some false)) else (some false)) else (some false)) else (some false))) else (some false)))))))) = some true := H
          have A8 := Aside0.mk A80
          clear A80
          replace H := Option.bind_eq_some_iff.mp H
          obtain ⟨⟨t740, t741⟩, A90, H⟩ := H
          replace H : ((segment_Put.f l1).bind fun bt744 => ((vinculumref09_Put.f kj2 y733).bind fun bt746 => ((segment_Many.f l1).bind fun bt748 => ((vinculumref09_Many.f kj2 y733).bind fun bt751 => ((vinculumlaw09_parted.f kj2).bind fun t754 => (if t754 = true then ((vinculumref08_Same.f kj2 t736 t740).bind fun t755 => (if t755 = true then (if t737 = t741 then (if bt744.1.toList = bt746.1.toList then (if bt744.2 = bt746.2 then (if bt748.1 = bt751.1 then (if bt748.2.1 = bt751.2.1 then (if bt748.2.2 = bt751.2.2 then ((vinculumref08_Same.f kj2 l1 y733).bind fun t756 => (some t756)) else (some false)) else (some false)) else (some false)) else (some false)) else (some false)) else (some false)) else (some false))) else (some false))))))) = some true := H
          have A9 := Aside0.mk A90
          clear A90
          replace H := Option.bind_eq_some_iff.mp H
          obtain ⟨⟨t744, t745⟩, A100, H⟩ := H
          replace H : ((vinculumref09_Put.f kj2 y733).bind fun bt746 => ((segment_Many.f l1).bind fun bt748 => ((vinculumref09_Many.f kj2 y733).bind fun bt751 => ((vinculumlaw09_parted.f kj2).bind fun t754 => (if t754 = true then ((vinculumref08_Same.f kj2 t736 t740).bind fun t755 => (if t755 = true then (if t737 = t741 then (if t744.toList = bt746.1.toList then (if t745 = bt746.2 then (if bt748.1 = bt751.1 then (if bt748.2.1 = bt751.2.1 then (if bt748.2.2 = bt751.2.2 then ((vinculumref08_Same.f kj2 l1 y733).bind fun t756 => (some t756)) else (some false)) else (some false)) else (some false)) else (some false)) else (some false)) else (some false)) else (some false))) else (some false)))))) = some true := H
          have A10 := Aside0.mk A100
          clear A100
          replace H := Option.bind_eq_some_iff.mp H
          obtain ⟨⟨t746, t747⟩, A110, H⟩ := H
          replace H : ((segment_Many.f l1).bind fun bt748 => ((vinculumref09_Many.f kj2 y733).bind fun bt751 => ((vinculumlaw09_parted.f kj2).bind fun t754 => (if t754 = true then ((vinculumref08_Same.f kj2 t736 t740).bind fun t755 => (if t755 = true then (if t737 = t741 then (if t744.toList = t746.toList then (if t745 = t747 then (if bt748.1 = bt751.1 then (if bt748.2.1 = bt751.2.1 then (if bt748.2.2 = bt751.2.2 then ((vinculumref08_Same.f kj2 l1 y733).bind fun t756 => (some t756)) else (some false)) else (some false)) else (some false)) else (some false)) else (some false)) else (some false)) else (some false))) else (some false))))) = some true := H
          have A11 := Aside0.mk A110
          clear A110
          replace H := Option.bind_eq_some_iff.mp H
          obtain ⟨⟨t748, t749, t750⟩, A120, H⟩ := H
          replace H : ((vinculumref09_Many.f kj2 y733).bind fun bt751 => ((vinculumlaw09_parted.f kj2).bind fun t754 => (if t754 = true then ((vinculumref08_Same.f kj2 t736 t740).bind fun t755 => (if t755 = true then (if t737 = t741 then (if t744.toList = t746.toList then (if t745 = t747 then (if t748 = bt751.1 then (if t749 = bt751.2.1 then (if t750 = bt751.2.2 then ((vinculumref08_Same.f kj2 l1 y733).bind fun t756 => (some t756)) else (some false)) else (some false)) else (some false)) else (some false)) else (some false)) else (some false)) else (some false))) else (some false)))) = some true := H
          have A12 := Aside0.mk A120
          clear A120
          replace H := Option.bind_eq_some_iff.mp H
          obtain ⟨⟨t751, t752, t753⟩, A130, H⟩ := H
          replace H : ((vinculumlaw09_parted.f kj2).bind fun t754 => (if t754 = true then ((vinculumref08_Same.f kj2 t736 t740).bind fun t755 => (if t755 = true then (if t737 = t741 then (if t744.toList = t746.toList then (if t745 = t747 then (if t748 = t751 then (if t749 = t752 then (if t750 = t753 then ((vinculumref08_Same.f kj2 l1 y733).bind fun t756 => (some t756)) else (some false)) else (some false)) else (some false)) else (some false)) else (some false)) else (some false)) else (some false))) else (some false))) = some true := H
          have A13 := Aside0.mk A130
          clear A130
          replace H := Option.bind_eq_some_iff.mp H
          obtain ⟨t754, A140, H⟩ := H
          replace H : (if t754 = true then ((vinculumref08_Same.f kj2 t736 t740).bind fun t755 => (if t755 = true then (if t737 = t741 then (if t744.toList = t746.toList then (if t745 = t747 then (if t748 = t751 then (if t749 = t752 then (if t750 = t753 then ((vinculumref08_Same.f kj2 l1 y733).bind fun t756 => (some t756)) else (some false)) else (some false)) else (some false)) else (some false)) else (some false)) else (some false)) else (some false))) else (some false)) = some true := H
          have A14 := Aside0.mk A140
          clear A140
          by_cases c15 : t754 = true
          · subst c15
            have H1 : ((vinculumref08_Same.f kj2 t736 t740).bind fun t755 => (if t755 = true then (if t737 = t741 then (if t744.toList = t746.toList then (if t745 = t747 then (if t748 = t751 then (if t749 = t752 then (if t750 = t753 then ((vinculumref08_Same.f kj2 l1 y733).bind fun t756 => (some t756)) else (some false)) else (some false)) else (some false)) else (some false)) else (some false)) else (some false)) else (some false))) = some true := by rw [if_pos rfl] at H; exact H
            clear H
            have H := H1
            clear H1
            replace H := Option.bind_eq_some_iff.mp H
            obtain ⟨t755, A160, H⟩ := H
            replace H : (if t755 = true then (if t737 = t741 then (if t744.toList = t746.toList then (if t745 = t747 then (if t748 = t751 then (if t749 = t752 then (if t750 = t753 then ((vinculumref08_Same.f kj2 l1 y733).bind fun t756 => (some t756)) else (some false)) else (some false)) else (some false)) else (some false)) else (some false)) else (some false)) else (some false)) = some true := H
            have A16 := Aside0.mk A160
            clear A160
            by_cases c17 : t755 = true
            · subst c17
              have H1 : (if t737 = t741 then (if t744.toList = t746.toList then (if t745 = t747 then (if t748 = t751 then (if t749 = t752 then (if t750 = t753 then ((vinculumref08_Same.f kj2 l1 y733).bind fun t756 => (some t756)) else (some false)) else (some false)) else (some false)) else (some false)) else (some false)) else (some false)) = some true := by rw [if_pos rfl] at H; exact H
              clear H
              have H := H1
              clear H1
              by_cases c18 : t737 = t741
              · rw [if_pos c18] at H
                have c18b0 : (t737 == t741) = true := beq_iff_eq.mpr c18
                have c18b1 : (t737 != t741) = false := bne_eq_false_iff_eq.mpr c18
                clear c18
                by_cases c19 : t744.toList = t746.toList
                · rw [if_pos c19] at H
                  have c19b0 : (t744.toList == t746.toList) = true := beq_iff_eq.mpr c19
                  have c19b1 : (t744.toList != t746.toList) = false := bne_eq_false_iff_eq.mpr c19
                  clear c19
                  by_cases c20 : t745 = t747
                  · rw [if_pos c20] at H
                    have c20b0 : (t745 == t747) = true := beq_iff_eq.mpr c20
                    have c20b1 : (t745 != t747) = false := bne_eq_false_iff_eq.mpr c20
                    clear c20
                    by_cases c21 : t748 = t751
                    · rw [if_pos c21] at H
                      have c21b0 : (t748 == t751) = true := beq_iff_eq.mpr c21
                      have c21b1 : (t748 != t751) = false := bne_eq_false_iff_eq.mpr c21
                      clear c21
                      by_cases c22 : t749 = t752
                      · rw [if_pos c22] at H
                        have c22b0 : (t749 == t752) = true := beq_iff_eq.mpr c22
                        have c22b1 : (t749 != t752) = false := bne_eq_false_iff_eq.mpr c22
                        clear c22
                        by_cases c23 : t750 = t753
                        · rw [if_pos c23] at H
                          have c23b0 : (t750 == t753) = true := beq_iff_eq.mpr c23
                          have c23b1 : (t750 != t753) = false := bne_eq_false_iff_eq.mpr c23
                          clear c23
                          replace H := Option.bind_eq_some_iff.mp H
                          obtain ⟨t756, A240, H⟩ := H
                          replace H : (some t756) = some true := H
                          have A24 := Aside0.mk A240
                          clear A240
                          obtain rfl := Option.some.inj H
                          go_wp2_with (first | ((with_reducible refine gate_builtin (b := .append) (xs := #[.tmp 28, .tmp 29]) rfl ?_); at_builtin; refine Kd.R_append_rows k42 (w0 := w) w.heap.size rfl (.tmp 28) (.tmp 29) 22 42 (.agg #[(.int .i64 0), (.int .i64 0), (.int .i64 0), (.int .i64 0)]) 32 rfl Try.underlying22 info42 rfl (by decide) (by omega) (.slice none 0 0) ([] : List (S42)) l1 _ _ _ (fun _ => True) (fun _ => False) rfl rfl ?aO ?aR (fun _ _ h => h) (fun _ h => h.elim) ?aF ?aB ?aS ?aL ?_; (case aR => repeat (first | exact (Kd.C_below HR1.out HB.out) | (with_reducible refine Kd.C_alloc ?_ _) | (with_reducible refine Kd.C_drewN ?_ _) | (with_reducible refine Kd.C_drew ?_))); (case aB => exact (by repeat (first | (with_reducible first | exact HB.out | apply below_alloc | apply pw_below_drewN | apply below_drew1) | exact HB.out))); (case aF => exact (fun _ _ => trivial)); (case aO => exact ((Kd.R_nil _ _ _ _ (fun _ => True)))); (case aS => exact (below_size (by repeat (first | (with_reducible first | exact HB.out | apply below_alloc | apply pw_below_drewN | apply below_drew1) | exact HB.out)))); (case aL => have := LMc7.out; omega); intro v734 w25 ho hb hg hat; rw [← Ny733.out] at ho; have n0_ := Aside0.mk (hb); have n1_ := Aside0.mk (ho); clear HB; have HB := n0_; have HO735 := n1_; clear n0_ n1_; clear ho hb hg hat) | ((with_reducible refine gate_callee (f := 49) rfl ?_); refine goesL_ (some 33) rfl rfl Try.func49 (by kernel_rfl) rfl #[.string a0] rfl (by (try simp only [List.map_toArray, List.map_cons, List.map_nil]); first | done | rfl | (simp only [List.length_drop, List.length_take]; rfl)) ?_; (with_reducible refine (segment_Get.calls a0 t736 t737 _ A8.out).mono ?_); rintro e w26 ⟨v738, rfl, ho0, hb⟩; refine ⟨_, rfl, ?_⟩; have n0_ := Aside0.mk (Kd.R_elder' (by (with_reducible repeat (first | apply Kd.R_alloc | apply Kd.R_drewN | apply Kd.R_drew)); exact HO735.out) (Kd.R_base ho0) hb); have n1_ := Aside0.mk (Kd.R_lower (Kd.R_new' ho0 (Kd.R_lt (by (with_reducible repeat (first | apply Kd.R_alloc | apply Kd.R_drewN | apply Kd.R_drew)); exact HO735.out))) (below_size (by repeat (first | (with_reducible first | exact HB.out | apply below_alloc | apply pw_below_drewN | apply below_drew1) | exact HB.out)))); have n2_ := Aside0.mk (below_step (by repeat (first | (with_reducible first | exact HB.out | apply below_alloc | apply pw_below_drewN | apply below_drew1) | exact HB.out)) hb); clear HO735; clear HB; have HO735 := n0_; have HO739 := n1_; have HB := n2_; clear n0_ n1_ n2_; (try clear hb); (try clear hb2); (try clear hk); (try clear hi); (try clear ho0)) | ((with_reducible refine gate_callee (f := 50) rfl ?_); refine goesL_ (some 38) rfl rfl Try.func50 (by kernel_rfl) rfl #[.string a0] rfl (by (try simp only [List.map_toArray, List.map_cons, List.map_nil]); first | done | rfl | (simp only [List.length_drop, List.length_take]; rfl)) ?_; (with_reducible refine (vinculumref09_Get.calls kj2 a0 t740 t741 _ A9.out).mono ?_); rintro e w27 ⟨v742, rfl, ho0, hb⟩; refine ⟨_, rfl, ?_⟩; have n0_ := Aside0.mk (Kd.R_elder' (by (with_reducible repeat (first | apply Kd.R_alloc | apply Kd.R_drewN | apply Kd.R_drew)); exact HO735.out) (Kd.R_base ho0) hb); have n1_ := Aside0.mk (Kd.R_elder' (by (with_reducible repeat (first | apply Kd.R_alloc | apply Kd.R_drewN | apply Kd.R_drew)); exact HO739.out) (Kd.R_base ho0) hb); have n2_ := Aside0.mk (Kd.R_lower (Kd.R_new' (Kd.R_new' ho0 (Kd.R_lt (by (with_reducible repeat (first | apply Kd.R_alloc | apply Kd.R_drewN | apply Kd.R_drew)); exact HO735.out))) (Kd.R_lt (by (with_reducible repeat (first | apply Kd.R_alloc | apply Kd.R_drewN | apply Kd.R_drew)); exact HO739.out))) (below_size (by repeat (first | (with_reducible first | exact HB.out | apply below_alloc | apply pw_below_drewN | apply below_drew1) | exact HB.out)))); have n3_ := Aside0.mk (below_step (by repeat (first | (with_reducible first | exact HB.out | apply below_alloc | apply pw_below_drewN | apply below_drew1) | exact HB.out)) hb); clear HO735; clear HO739; clear HB; have HO735 := n0_; have HO739 := n1_; have HO743 := n2_; have HB := n3_; clear n0_ n1_ n2_ n3_; (try clear hb); (try clear hb2); (try clear hk); (try clear hi); (try clear ho0)) | ((with_reducible refine gate_callee (f := 51) rfl ?_); refine goesL_ (some 43) rfl rfl Try.func51 (by kernel_rfl) rfl #[.slice A1 l1.length c1] rfl (by (try simp only [List.map_toArray, List.map_cons, List.map_nil]); first | done | rfl | (simp only [List.length_drop, List.length_take]; rfl)) ?_; (with_reducible refine (segment_Put.calls _ _ l1 t744 t745 _ ?side1 ?side2 A10.out).mono ?_); (case side1 => repeat (first | exact (Kd.C_below HR1.out HB.out) | (with_reducible refine Kd.C_alloc ?_ _) | (with_reducible refine Kd.C_drewN ?_ _) | (with_reducible refine Kd.C_drew ?_))); (case side2 => exact HC1.out); rintro e w28 ⟨rfl, hb⟩; refine ⟨_, rfl, ?_⟩; have n0_ := Aside0.mk (Kd.R_below (by (with_reducible repeat (first | apply Kd.R_alloc | apply Kd.R_drewN | apply Kd.R_drew)); exact HO735.out) hb); have n1_ := Aside0.mk (Kd.R_below (by (with_reducible repeat (first | apply Kd.R_alloc | apply Kd.R_drewN | apply Kd.R_drew)); exact HO739.out) hb); have n2_ := Aside0.mk (Kd.R_below (by (with_reducible repeat (first | apply Kd.R_alloc | apply Kd.R_drewN | apply Kd.R_drew)); exact HO743.out) hb); have n3_ := Aside0.mk (below_step (by repeat (first | (with_reducible first | exact HB.out | apply below_alloc | apply pw_below_drewN | apply below_drew1) | exact HB.out)) hb); clear HO735; clear HO739; clear HO743; clear HB; have HO735 := n0_; have HO739 := n1_; have HO743 := n2_; have HB := n3_; clear n0_ n1_ n2_ n3_; (try clear hb); (try clear hb2); (try clear hk); (try clear hi); obtain ⟨Ao29, co29, eo29⟩ := Kd.R_slice HO735.out; subst eo29) | ((with_reducible refine gate_callee (f := 52) rfl ?_); refine goesL_ (some 48) rfl rfl Try.func52 (by kernel_rfl) rfl #[.slice Ao29 y733.length co29] rfl (by (try simp only [List.map_toArray, List.map_cons, List.map_nil]); first | done | rfl | (simp only [List.length_drop, List.length_take]; rfl)) ?_; (with_reducible refine (vinculumref09_Put.calls kj2 _ _ y733 t746 t747 _ ?side1 ?side2 A11.out).mono ?_); (case side1 => repeat (first | exact (Kd.R_reads' HO735.out).2.2 | (with_reducible refine Kd.C_alloc ?_ _) | (with_reducible refine Kd.C_drewN ?_ _) | (with_reducible refine Kd.C_drew ?_))); (case side2 => exact (Kd.R_reads' HO735.out).2.1); rintro e w30 ⟨rfl, hb⟩; refine ⟨_, rfl, ?_⟩; have n0_ := Aside0.mk (Kd.R_below (by (with_reducible repeat (first | apply Kd.R_alloc | apply Kd.R_drewN | apply Kd.R_drew)); exact HO735.out) hb); have n1_ := Aside0.mk (Kd.R_below (by (with_reducible repeat (first | apply Kd.R_alloc | apply Kd.R_drewN | apply Kd.R_drew)); exact HO739.out) hb); have n2_ := Aside0.mk (Kd.R_below (by (with_reducible repeat (first | apply Kd.R_alloc | apply Kd.R_drewN | apply Kd.R_drew)); exact HO743.out) hb); have n3_ := Aside0.mk (below_step (by repeat (first | (with_reducible first | exact HB.out | apply below_alloc | apply pw_below_drewN | apply below_drew1) | exact HB.out)) hb); clear HO735; clear HO739; clear HO743; clear HB; have HO735 := n0_; have HO739 := n1_; have HO743 := n2_; have HB := n3_; clear n0_ n1_ n2_ n3_; (try clear hb); (try clear hb2); (try clear hk); (try clear hi)) | ((with_reducible refine gate_callee (f := 53) rfl ?_); refine goesL_ (some 53) rfl rfl Try.func53 (by kernel_rfl) rfl #[.slice A1 l1.length c1] rfl (by (try simp only [List.map_toArray, List.map_cons, List.map_nil]); first | done | rfl | (simp only [List.length_drop, List.length_take]; rfl)) ?_; (with_reducible refine (segment_Many.calls _ _ l1 t748 t749 t750 _ ?side1 ?side2 A12.out).mono ?_); (case side1 => repeat (first | exact (Kd.C_below HR1.out HB.out) | (with_reducible refine Kd.C_alloc ?_ _) | (with_reducible refine Kd.C_drewN ?_ _) | (with_reducible refine Kd.C_drew ?_))); (case side2 => exact HC1.out); rintro e w31 ⟨rfl, hb⟩; refine ⟨_, rfl, ?_⟩; have n0_ := Aside0.mk (Kd.R_below (by (with_reducible repeat (first | apply Kd.R_alloc | apply Kd.R_drewN | apply Kd.R_drew)); exact HO735.out) hb); have n1_ := Aside0.mk (Kd.R_below (by (with_reducible repeat (first | apply Kd.R_alloc | apply Kd.R_drewN | apply Kd.R_drew)); exact HO739.out) hb); have n2_ := Aside0.mk (Kd.R_below (by (with_reducible repeat (first | apply Kd.R_alloc | apply Kd.R_drewN | apply Kd.R_drew)); exact HO743.out) hb); have n3_ := Aside0.mk (below_step (by repeat (first | (with_reducible first | exact HB.out | apply below_alloc | apply pw_below_drewN | apply below_drew1) | exact HB.out)) hb); clear HO735; clear HO739; clear HO743; clear HB; have HO735 := n0_; have HO739 := n1_; have HO743 := n2_; have HB := n3_; clear n0_ n1_ n2_ n3_; (try clear hb); (try clear hb2); (try clear hk); (try clear hi)) | ((with_reducible refine gate_callee (f := 54) rfl ?_); refine goesL_ (some 59) rfl rfl Try.func54 (by kernel_rfl) rfl #[.slice Ao29 y733.length co29] rfl (by (try simp only [List.map_toArray, List.map_cons, List.map_nil]); first | done | rfl | (simp only [List.length_drop, List.length_take]; rfl)) ?_; (with_reducible refine (vinculumref09_Many.calls kj2 _ _ y733 t751 t752 t753 _ ?side1 ?side2 A13.out).mono ?_); (case side1 => repeat (first | exact (Kd.R_reads' HO735.out).2.2 | (with_reducible refine Kd.C_alloc ?_ _) | (with_reducible refine Kd.C_drewN ?_ _) | (with_reducible refine Kd.C_drew ?_))); (case side2 => exact (Kd.R_reads' HO735.out).2.1); rintro e w32 ⟨rfl, hb⟩; refine ⟨_, rfl, ?_⟩; have n0_ := Aside0.mk (Kd.R_below (by (with_reducible repeat (first | apply Kd.R_alloc | apply Kd.R_drewN | apply Kd.R_drew)); exact HO735.out) hb); have n1_ := Aside0.mk (Kd.R_below (by (with_reducible repeat (first | apply Kd.R_alloc | apply Kd.R_drewN | apply Kd.R_drew)); exact HO739.out) hb); have n2_ := Aside0.mk (Kd.R_below (by (with_reducible repeat (first | apply Kd.R_alloc | apply Kd.R_drewN | apply Kd.R_drew)); exact HO743.out) hb); have n3_ := Aside0.mk (below_step (by repeat (first | (with_reducible first | exact HB.out | apply below_alloc | apply pw_below_drewN | apply below_drew1) | exact HB.out)) hb); clear HO735; clear HO739; clear HO743; clear HB; have HO735 := n0_; have HO739 := n1_; have HO743 := n2_; have HB := n3_; clear n0_ n1_ n2_ n3_; (try clear hb); (try clear hb2); (try clear hk); (try clear hi)) | ((with_reducible refine gate_callee (f := 55) rfl ?_); refine goesL_ (some 63) rfl rfl Try.func55 (by kernel_rfl) rfl #[] rfl (by (try simp only [List.map_toArray, List.map_cons, List.map_nil]); first | done | rfl | (simp only [List.length_drop, List.length_take]; rfl)) ?_; (with_reducible refine (vinculumlaw09_parted.callsT kj2 _ A14.out).mono ?_); rintro e w33 ⟨rfl, hb⟩; refine ⟨_, rfl, ?_⟩; have n0_ := Aside0.mk (Kd.R_below (by (with_reducible repeat (first | apply Kd.R_alloc | apply Kd.R_drewN | apply Kd.R_drew)); exact HO735.out) hb); have n1_ := Aside0.mk (Kd.R_below (by (with_reducible repeat (first | apply Kd.R_alloc | apply Kd.R_drewN | apply Kd.R_drew)); exact HO739.out) hb); have n2_ := Aside0.mk (Kd.R_below (by (with_reducible repeat (first | apply Kd.R_alloc | apply Kd.R_drewN | apply Kd.R_drew)); exact HO743.out) hb); have n3_ := Aside0.mk (below_step (by repeat (first | (with_reducible first | exact HB.out | apply below_alloc | apply pw_below_drewN | apply below_drew1) | exact HB.out)) hb); clear HO735; clear HO739; clear HO743; clear HB; have HO735 := n0_; have HO739 := n1_; have HO743 := n2_; have HB := n3_; clear n0_ n1_ n2_ n3_; (try clear hb); (try clear hb2); (try clear hk); (try clear hi); obtain ⟨Ao34, co34, eo34⟩ := Kd.R_slice HO739.out; subst eo34; obtain ⟨Ao35, co35, eo35⟩ := Kd.R_slice HO743.out; subst eo35) | (go_at_call 26; (with_reducible refine (vinculumref08_Same.calls kj2 _ _ t736 _ _ t740 true _ ?side1 ?side2 ?side3 ?side4 A16.out).mono ?_); (case side1 => repeat (first | exact (Kd.R_reads' HO739.out).2.2 | (with_reducible refine Kd.C_alloc ?_ _) | (with_reducible refine Kd.C_drewN ?_ _) | (with_reducible refine Kd.C_drew ?_))); (case side2 => exact (Kd.R_reads' HO739.out).2.1); (case side3 => repeat (first | exact (Kd.R_reads' HO743.out).2.2 | (with_reducible refine Kd.C_alloc ?_ _) | (with_reducible refine Kd.C_drewN ?_ _) | (with_reducible refine Kd.C_drew ?_))); (case side4 => exact (Kd.R_reads' HO743.out).2.1); rintro e w' ⟨rfl, ⟨nd, rfl⟩⟩) | (go_at_call 26; (with_reducible refine (vinculumref08_Same.calls kj2 _ _ l1 _ _ y733 true _ ?side1 ?side2 ?side3 ?side4 A24.out).mono ?_); (case side1 => repeat (first | exact (Kd.C_below HR1.out (by repeat (first | (with_reducible first | exact HB.out | apply below_alloc | apply pw_below_drewN | apply below_drew1) | exact HB.out))) | (with_reducible refine Kd.C_alloc ?_ _) | (with_reducible refine Kd.C_drewN ?_ _) | (with_reducible refine Kd.C_drew ?_))); (case side2 => exact HC1.out); (case side3 => repeat (first | exact (Kd.R_reads' HO735.out).2.2 | (with_reducible refine Kd.C_alloc ?_ _) | (with_reducible refine Kd.C_drewN ?_ _) | (with_reducible refine Kd.C_drew ?_))); (case side4 => exact (Kd.R_reads' HO735.out).2.1); rintro e w' ⟨rfl, ⟨nd, rfl⟩⟩))
                          go_ret
                          exact ⟨by first | rfl | (simp [errW_none, errW_some] <;> rfl) | (simp [*, errW_none, errW_some] <;> rfl), by repeat (first | (with_reducible first | exact HB.out | apply below_alloc | apply pw_below_drewN | apply below_drew1) | exact HB.out)⟩
                        · rw [if_neg c23] at H
                          have c23b0 : (t750 == t753) = false := beq_eq_false_iff_ne.mpr c23
                          have c23b1 : (t750 != t753) = true := bne_iff_ne.mpr c23
                          exact absurd (Option.some.inj H) (by decide)
                      · rw [if_neg c22] at H
                        have c22b0 : (t749 == t752) = false := beq_eq_false_iff_ne.mpr c22
                        have c22b1 : (t749 != t752) = true := bne_iff_ne.mpr c22
                        exact absurd (Option.some.inj H) (by decide)
                    · rw [if_neg c21] at H
                      have c21b0 : (t748 == t751) = false := beq_eq_false_iff_ne.mpr c21
                      have c21b1 : (t748 != t751) = true := bne_iff_ne.mpr c21
                      exact absurd (Option.some.inj H) (by decide)
                  · rw [if_neg c20] at H
                    have c20b0 : (t745 == t747) = false := beq_eq_false_iff_ne.mpr c20
                    have c20b1 : (t745 != t747) = true := bne_iff_ne.mpr c20
                    exact absurd (Option.some.inj H) (by decide)
                · rw [if_neg c19] at H
                  have c19b0 : (t744.toList == t746.toList) = false := beq_eq_false_iff_ne.mpr c19
                  have c19b1 : (t744.toList != t746.toList) = true := bne_iff_ne.mpr c19
                  exact absurd (Option.some.inj H) (by decide)
              · rw [if_neg c18] at H
                have c18b0 : (t737 == t741) = false := beq_eq_false_iff_ne.mpr c18
                have c18b1 : (t737 != t741) = true := bne_iff_ne.mpr c18
                exact absurd (Option.some.inj H) (by decide)
            · replace c17 := Bool.eq_false_iff.mpr c17
              subst c17
              have H1 : (some false) = some true := by rw [if_neg (show ¬ (false = true) by decide)] at H; exact H
              clear H
              have H := H1
              clear H1
              exact absurd (Option.some.inj H) (by decide)
          · replace c15 := Bool.eq_false_iff.mpr c15
            subst c15
            have H1 : (some false) = some true := by rw [if_neg (show ¬ (false = true) by decide)] at H; exact H
            clear H
            have H := H1
            clear H1
            exact absurd (Option.some.inj H) (by decide)
        · rw [if_neg c7] at H
          exact absurd H (by simp)
end Go.Proofs.Ytgifenlfklbdgaa.P
