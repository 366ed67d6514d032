/- A part of the proof of the law GroupDoes: the words, contracts and plain facts that it needs, no more. Each says its own condition. -/
import Derived.Test.YtgifenlfklbdgaaZGroupDoesg
section
namespace Go.Proofs.Ytgifenlfklbdgaa.P
open Go.RowKit Go.Proofs.YtgifenlfklbdgaaW.PrintWords Go.Proofs.YtgifenlfklbdgaaW.PrintLast Go.Proofs.YtgifenlfklbdgaaW.PrintMore
attribute [local go_sem] max2_int min2_int max_two min_two max_three min_three max_four min_four
set_option linter.unusedVariables false
set_option linter.unusedSimpArgs false
mutual
def vinculumref10_Short.l0 : Nat → List (S42) → Int → Option (Bool)
  | 0, _, _ => none
  | k + 1, x0, x3 => if x3 < (x0.length : Int) then (vinculumref10_Short.j1 k x0 x3 (decide ((x0.length : Int) ≤ 60))) else (vinculumref10_Short.j1 k x0 x3 false)
def vinculumref10_Short.j1 : Nat → List (S42) → Int → Bool → Option (Bool)
  | 0, _, _, _ => none
  | k + 1, x0, x3, x13 => if x13 = true then (if 0 ≤ x3 then (if x3 < (x0.length : Int) then (if (wrap64 (((rd_T42 x0 x3).f1) - ((rd_T42 x0 x3).f0))) > 1000 then (if (wrap64 (((rd_T42 x0 x3).f1) - ((rd_T42 x0 x3).f0))) < 70000 then (some false) else (vinculumref10_Short.l0 k x0 (wrap64 (x3 + 1)))) else (vinculumref10_Short.l0 k x0 (wrap64 (x3 + 1)))) else (none)) else (none)) else (some (decide ((x0.length : Int) ≤ 60)))
end
def vinculumref10_Short.f (k : Nat) (l0 : List (S42)) : Option (Bool) := vinculumref10_Short.l0 k l0 0
set_option maxHeartbeats 8000000 in
set_option maxRecDepth 100000 in
theorem vinculumref10_Short.calls (k : Nat) (A0 : Option Addr) (c0 : Nat) (l0 : List (S42)) (r : Bool) (w : World) (hr0 : Kd.C k42 w A0 l0.length l0) (hc0 : l0.length ≤ c0) (h : vinculumref10_Short.f k l0 = some r) :
    Calls Try.prog 27 #[.slice A0 l0.length c0] w fun e w' => e = .returned (.bool r) ∧ Drawn0 w w' := by
  have HR0 := Aside0.mk hr0
  have HC0 := Aside0.mk hc0
  clear hr0 hc0
  have H : (vinculumref10_Short.l0 k l0 0) = some r := h
  clear h
  have H' := Aside0.mk H
  clear H
  go_enter Try.func27, Try.ntmps27
  go_wp2
  repeat (go_quiet (fail); try go_wp2)
  go_loopg [3] k (fun kq v3 w' => ∃ (x3_1 : Int), v3 = .int .i64 x3_1 ∧ Aside0 (vinculumref10_Short.l0 kq l0 x3_1 = some r) ∧ Aside0 (kq ≤ k) ∧ Drawn0 w w')
  case atStart => exact ⟨(0), (by first | rfl | (simp; done) | (simp [*]; done)), H', ⟨Nat.le_refl _⟩, by repeat (first | exact Drawn0.refl _ | apply Drawn0.step)⟩
  case round =>
    clear H'
    obtain ⟨x3_1, rfl, HA, HK1, ⟨m1, rfl⟩⟩ := hrel
    cases gk with
    | zero => exact absurd HA.out (by simp [vinculumref10_Short.l0])
    | succ k1 =>
      have H := HA.out
      clear HA
      simp only [vinculumref10_Short.l0] at H
      have HC2 := Aside0.mk H
      clear H
      go_upto_region 2 with (fail)
      repeat (go_quiet (fail); go_upto_region 2 with (fail))
      go_cut [13] (fun v13 wc => ∃ (kq : Nat) (x13_1 : Bool), v13 = .bool x13_1 ∧ Aside0 (vinculumref10_Short.j1 kq l0 x3_1 x13_1 = some r) ∧ Aside0 (kq ≤ k1) ∧ Drawn0 w wc)
      case first =>
        have H := HC2.out
        clear HC2
        by_cases c3 : x3_1 < (l0.length : Int)
        · rw [if_pos c3] at H
          have c3b0 : decide (x3_1 < (l0.length : Int)) = true := decide_eq_true c3
          clear c3
          (first | rw [c3b0] | (simp only [i64_w, i32_w]; rw [c3b0]) | skip)
          have H' := Aside0.mk H
          clear H
          go_wp2
          repeat (go_quiet (fail); try go_wp2)
          go_meet
          case rel => exact ⟨_, (decide ((l0.length : Int) ≤ 60)), (by first | rfl | (simp; done) | (simp [*]; done)), H', ⟨by have := HK1.out; first | omega | exact Nat.le_refl _⟩, by repeat (first | exact Drawn0.refl _ | apply Drawn0.step)⟩
        · rw [if_neg c3] at H
          have c3b0 : decide (x3_1 < (l0.length : Int)) = false := decide_eq_false c3
          clear c3
          (first | rw [c3b0] | (simp only [i64_w, i32_w]; rw [c3b0]) | skip)
          have H' := Aside0.mk H
          clear H
          go_wp2
          repeat (go_quiet (fail); try go_wp2)
          go_meet
          case rel => exact ⟨_, (false), (by first | rfl | (simp; done) | (simp [*]; done)), H', ⟨by have := HK1.out; first | omega | exact Nat.le_refl _⟩, by repeat (first | exact Drawn0.refl _ | apply Drawn0.step)⟩
      case rest =>
        clear HC2
        try clear c2
        try clear p2
        try clear c3
        try clear c3b0
        obtain ⟨kq, x13_1, rfl, HA, HJ1, ⟨mc1, rfl⟩⟩ := hcut
        cases kq with
        | zero => exact absurd HA.out (by simp [vinculumref10_Short.j1])
        | succ kj1 =>
          have H := HA.out
          clear HA
          simp only [vinculumref10_Short.j1] at H
          by_cases c4 : x13_1 = true
          · subst c4
            have H1 : (if 0 ≤ x3_1 then (if x3_1 < (l0.length : Int) then (if (wrap64 (((rd_T42 l0 x3_1).f1) - ((rd_T42 l0 x3_1).f0))) > 1000 then (if (wrap64 (((rd_T42 l0 x3_1).f1) - ((rd_T42 l0 x3_1).f0))) < 70000 then (some false) else (vinculumref10_Short.l0 kj1 l0 (wrap64 (x3_1 + 1)))) else (vinculumref10_Short.l0 kj1 l0 (wrap64 (x3_1 + 1)))) else (none)) else (none)) = some r := by rw [if_pos rfl] at H; exact H
            clear H
            have H := H1
            clear H1
            by_cases c5 : 0 ≤ x3_1
            · rw [if_pos c5] at H
              have c5b0 : decide (0 ≤ x3_1) = true := decide_eq_true c5
              clear c5
              by_cases c6 : x3_1 < (l0.length : Int)
              · rw [if_pos c6] at H
                have c6b0 : decide (x3_1 < (l0.length : Int)) = true := decide_eq_true c6
                clear c6
                by_cases c7 : (wrap64 (((rd_T42 l0 x3_1).f1) - ((rd_T42 l0 x3_1).f0))) > 1000
                · rw [if_pos c7] at H
                  have c7b0 : decide (1000 < (wrap64 (((rd_T42 l0 x3_1).f1) - ((rd_T42 l0 x3_1).f0)))) = true := decide_eq_true c7
                  clear c7
                  by_cases c8 : (wrap64 (((rd_T42 l0 x3_1).f1) - ((rd_T42 l0 x3_1).f0))) < 70000
                  · rw [if_pos c8] at H
                    have c8b0 : decide ((wrap64 (((rd_T42 l0 x3_1).f1) - ((rd_T42 l0 x3_1).f0))) < 70000) = true := decide_eq_true c8
                    clear c8
                    obtain rfl := Option.some.inj H
                    have p101 : 0 ≤ (x3_1 : Int) := of_decide_eq_true (by first | (with_reducible assumption) | assumption)
                    have q101 : x3_1 < (l0.length : Int) := of_decide_eq_true (by first | (with_reducible assumption) | assumption)
                    obtain ⟨ad101, e101, hx101_0, hx101_1, hx101_2, hx101_3⟩ := at_T42 HR0.out x3_1 p101 q101
                    cases e101
                    replace p101 := eq_true p101
                    replace q101 := eq_true q101
                    have p102 : 0 ≤ (x3_1 : Int) := of_decide_eq_true (by first | (with_reducible assumption) | assumption)
                    have q102 : x3_1 < (l0.length : Int) := of_decide_eq_true (by first | (with_reducible assumption) | assumption)
                    obtain ⟨ad102, e102, hx102_0, hx102_1, hx102_2, hx102_3⟩ := at_T42 HR0.out x3_1 p102 q102
                    obtain rfl : ad101 = ad102 := (by injection e102)
                    replace p102 := eq_true p102
                    replace q102 := eq_true q102
                    go_wp2
                    repeat (go_quiet (fail); try go_wp2)
                    go_ret
                    exact ⟨by first | rfl | (simp; done) | (simp [*]; done), by repeat (first | exact Drawn0.refl _ | apply Drawn0.step)⟩
                  · rw [if_neg c8] at H
                    have c8b0 : decide ((wrap64 (((rd_T42 l0 x3_1).f1) - ((rd_T42 l0 x3_1).f0))) < 70000) = false := decide_eq_false c8
                    clear c8
                    have H' := Aside0.mk H
                    clear H
                    have p101 : 0 ≤ (x3_1 : Int) := of_decide_eq_true (by first | (with_reducible assumption) | assumption)
                    have q101 : x3_1 < (l0.length : Int) := of_decide_eq_true (by first | (with_reducible assumption) | assumption)
                    obtain ⟨ad101, e101, hx101_0, hx101_1, hx101_2, hx101_3⟩ := at_T42 HR0.out x3_1 p101 q101
                    cases e101
                    replace p101 := eq_true p101
                    replace q101 := eq_true q101
                    have p102 : 0 ≤ (x3_1 : Int) := of_decide_eq_true (by first | (with_reducible assumption) | assumption)
                    have q102 : x3_1 < (l0.length : Int) := of_decide_eq_true (by first | (with_reducible assumption) | assumption)
                    obtain ⟨ad102, e102, hx102_0, hx102_1, hx102_2, hx102_3⟩ := at_T42 HR0.out x3_1 p102 q102
                    obtain rfl : ad101 = ad102 := (by injection e102)
                    replace p102 := eq_true p102
                    replace q102 := eq_true q102
                    go_wp2
                    repeat (go_quiet (fail); try go_wp2)
                    go_roundg kj1
                    case measure => have := HK1.out; have := HJ1.out; omega
                    case rel => exact ⟨(wrap64 (x3_1 + 1)), (by first | rfl | (simp; done) | (simp [*]; done)), H', ⟨by have := HK1.out; have := HJ1.out; omega⟩, by repeat (first | exact Drawn0.refl _ | apply Drawn0.step)⟩
                · rw [if_neg c7] at H
                  have c7b0 : decide (1000 < (wrap64 (((rd_T42 l0 x3_1).f1) - ((rd_T42 l0 x3_1).f0)))) = false := decide_eq_false c7
                  clear c7
                  have H' := Aside0.mk H
                  clear H
                  have p101 : 0 ≤ (x3_1 : Int) := of_decide_eq_true (by first | (with_reducible assumption) | assumption)
                  have q101 : x3_1 < (l0.length : Int) := of_decide_eq_true (by first | (with_reducible assumption) | assumption)
                  obtain ⟨ad101, e101, hx101_0, hx101_1, hx101_2, hx101_3⟩ := at_T42 HR0.out x3_1 p101 q101
                  cases e101
                  replace p101 := eq_true p101
                  replace q101 := eq_true q101
                  have p102 : 0 ≤ (x3_1 : Int) := of_decide_eq_true (by first | (with_reducible assumption) | assumption)
                  have q102 : x3_1 < (l0.length : Int) := of_decide_eq_true (by first | (with_reducible assumption) | assumption)
                  obtain ⟨ad102, e102, hx102_0, hx102_1, hx102_2, hx102_3⟩ := at_T42 HR0.out x3_1 p102 q102
                  obtain rfl : ad101 = ad102 := (by injection e102)
                  replace p102 := eq_true p102
                  replace q102 := eq_true q102
                  go_wp2
                  repeat (go_quiet (fail); try go_wp2)
                  go_roundg kj1
                  case measure => have := HK1.out; have := HJ1.out; omega
                  case rel => exact ⟨(wrap64 (x3_1 + 1)), (by first | rfl | (simp; done) | (simp [*]; done)), H', ⟨by have := HK1.out; have := HJ1.out; omega⟩, by repeat (first | exact Drawn0.refl _ | apply Drawn0.step)⟩
              · rw [if_neg c6] at H
                exact absurd H (by simp)
            · rw [if_neg c5] at H
              exact absurd H (by simp)
          · replace c4 := Bool.eq_false_iff.mpr c4
            subst c4
            have H1 : (some (decide ((l0.length : Int) ≤ 60))) = some r := by rw [if_neg (show ¬ (false = true) by decide)] at H; exact H
            clear H
            have H := H1
            clear H1
            obtain rfl := Option.some.inj H
            go_wp2
            repeat (go_quiet (fail); try go_wp2)
            go_ret
            exact ⟨by first | rfl | (simp; done) | (simp [*]; done), by repeat (first | exact Drawn0.refl _ | apply Drawn0.step)⟩
def vinculumref10_long.f (k : Nat) (a0 : ByteArray) (a1 : Int) : Option (Int) := if 0 ≤ a1 then (if a1 ≤ (wrap64 (a1 + 4)) then (if (wrap64 (a1 + 4)) ≤ (a0.size : Int) then ((vinculumref03_One.f k (a0.extract (a1 : Int).toNat ((wrap64 (a1 + 4)) : Int).toNat) 4).bind fun t332 => (some t332)) else (none)) else (none)) else (none)
set_option maxHeartbeats 8000000 in
set_option maxRecDepth 100000 in
theorem vinculumref10_long.calls (k : Nat) (a0 : ByteArray) (a1 : Int) (r : Int) (w : World) (h : vinculumref10_long.f k a0 a1 = some r) :
    Calls Try.prog 67 #[.string a0, .int .i64 a1] w fun e w' => e = .returned (.int .i64 r) ∧ Drawn0 w w' := by
  have H : (if 0 ≤ a1 then (if a1 ≤ (wrap64 (a1 + 4)) then (if (wrap64 (a1 + 4)) ≤ (a0.size : Int) then ((vinculumref03_One.f k (a0.extract (a1 : Int).toNat ((wrap64 (a1 + 4)) : Int).toNat) 4).bind fun t332 => (some t332)) else (none)) else (none)) else (none)) = some r := h
  clear h
  by_cases c3 : 0 ≤ a1
  · rw [if_pos c3] at H
    have c3b0 := eq_true c3
    have c3b1 : decide (0 ≤ a1) = true := decide_eq_true c3
    clear c3
    by_cases c4 : a1 ≤ (wrap64 (a1 + 4))
    · rw [if_pos c4] at H
      have c4b0 := eq_true c4
      have c4b1 : decide (a1 ≤ (wrap64 (a1 + 4))) = true := decide_eq_true c4
      by_cases c5 : (wrap64 (a1 + 4)) ≤ (a0.size : Int)
      · rw [if_pos c5] at H
        have c5b0 := eq_true c5
        have c5b1 : decide ((wrap64 (a1 + 4)) ≤ (a0.size : Int)) = true := decide_eq_true c5
        replace H := Option.bind_eq_some_iff.mp H
        obtain ⟨t332, A60, H⟩ := H
        replace H : (some t332) = some r := H
        have A6 := Aside0.mk A60
        clear A60
        obtain rfl := Option.some.inj H
        go_enter Try.func67, Try.ntmps67
        go_wp2_with (first | ((with_reducible refine gate_callee (f := 66) rfl ?_); refine goesL_ (some 10) rfl rfl Try.func66 (by kernel_rfl) rfl #[.string (a0.extract (a1 : Int).toNat ((wrap64 (a1 + 4)) : Int).toNat), .int .i64 4] rfl (by (try simp only [List.map_toArray, List.map_cons, List.map_nil]); first | done | rfl | (simp only [List.length_drop, List.length_take]; rfl)) ?_; (with_reducible refine (vinculumref03_One.calls k (a0.extract (a1 : Int).toNat ((wrap64 (a1 + 4)) : Int).toNat) 4 t332 _ A6.out).mono ?_); rintro e w' ⟨rfl, ⟨nd, rfl⟩⟩; refine ⟨_, rfl, ?_⟩))
        go_ret
        exact ⟨by first | rfl | (simp; done) | (simp [*]; done), by repeat (first | exact Drawn0.refl _ | apply Drawn0.step)⟩
      · rw [if_neg c5] at H
        exact absurd H (by simp)
    · rw [if_neg c4] at H
      exact absurd H (by simp)
  · rw [if_neg c3] at H
    exact absurd H (by simp)
mutual
def vinculumref10_Get.j0 : Nat → ByteArray → Int → Int → Bool → Option ((List (S42)) × Int)
  | 0, _, _, _, _ => none
  | k + 1, x0, x4, x5, x22 => if x22 = true then (some (([] : List (S42)), 5)) else (if x5 > 65536 then (some (([] : List (S42)), 7)) else ((vinculumref10_long.f k x0 4).bind fun t335 => (if t335 = (wrap64 (16 + (wrap64 (12 * x5)))) then (if (x0.size : Int) < (wrap64 (16 + (wrap64 (12 * x5)))) then (some (([] : List (S42)), 4)) else (vinculumref10_Get.l0 k x0 x4 x5 ([] : List (S42)) 0)) else (some (([] : List (S42)), 5)))))
def vinculumref10_Get.l0 : Nat → ByteArray → Int → Int → List (S42) → Int → Option ((List (S42)) × Int)
  | 0, _, _, _, _, _ => none
  | k + 1, x0, x4, x5, x6, x7 => if x7 < x5 then ((vinculumref10_long.f k x0 (wrap64 (16 + (wrap64 (12 * x7))))).bind fun t336 => ((vinculumref10_long.f k x0 (wrap64 ((wrap64 (16 + (wrap64 (12 * x7)))) + 4))).bind fun t337 => ((vinculumref10_long.f k x0 (wrap64 ((wrap64 (16 + (wrap64 (12 * x7)))) + 8))).bind fun t338 => (if x6.length < 4398046511104 then (vinculumref10_Get.l0 k x0 x4 x5 (x6 ++ [(⟨t336, t337, t338, wrap64 (13 - x4)⟩ : S42)]) (wrap64 (x7 + 1))) else (none))))) else ((vinculumref08_Is.f k x6).bind fun t342 => (if t342 = true then (some (x6, 0)) else (some (([] : List (S42)), 5))))
end
def vinculumref10_Get.f (k : Nat) (a0 : ByteArray) : Option ((List (S42)) × Int) := if (a0.size : Int) < 16 then (some (([] : List (S42)), 4)) else (if 0 ≤ 2 then (if 2 ≤ (a0.size : Int) then ((vinculumref03_One.f k (a0.extract 0 2) 2).bind fun t333 => ((vinculumref10_long.f k a0 12).bind fun t334 => (if t333 = 12 then (vinculumref10_Get.j0 k a0 t333 t334 false) else (vinculumref10_Get.j0 k a0 t333 t334 (t333 != 13))))) else (none)) else (none))
set_option maxHeartbeats 8000000 in
set_option maxRecDepth 100000 in
theorem vinculumref10_Get.calls (k : Nat) (a0 : ByteArray) (r1 : List (S42)) (r2 : Int) (w : World) (h : vinculumref10_Get.f k a0 = some (r1, r2)) :
    Calls Try.prog 29 #[.string a0] w fun e w' => ∃ v0_ : Value, e = .returned (.tuple #[v0_, .int .i64 r2]) ∧ Kd.R k42 42 w' w.heap.size (fun _ => True) v0_ r1 ∧ Below w.heap.size w w' := by
  have hu42 := Try.underlying42
  have HB := Aside0.mk (Below.refl w.heap.size w)
  have H : (if (a0.size : Int) < 16 then (some (([] : List (S42)), 4)) else (if 0 ≤ 2 then (if 2 ≤ (a0.size : Int) then ((vinculumref03_One.f k (a0.extract 0 2) 2).bind fun t333 => ((vinculumref10_long.f k a0 12).bind fun t334 => (if t333 = 12 then (vinculumref10_Get.j0 k a0 t333 t334 false) else (vinculumref10_Get.j0 k a0 t333 t334 (t333 != 13))))) else (none)) else (none))) = some (r1, r2) := h
  clear h
  by_cases c2 : (a0.size : Int) < 16
  · rw [if_pos c2] at H
    have c2b0 : decide ((a0.size : Int) < 16) = true := decide_eq_true c2
    have c2b1 : decide (a0.size < 16) = true := decide_eq_true (by omega)
    clear c2
    simp only [Option.some.injEq, Prod.mk.injEq] at H
    obtain ⟨rfl, rfl⟩ := H
    go_enter Try.func29, Try.ntmps29
    go_wp2
    go_ret2
    exact ⟨_, by first | rfl | (simp [errW_none, errW_some] <;> rfl) | (simp [*, errW_none, errW_some] <;> rfl), by first | exact Kd.R_nil _ _ _ _ _ | exact Kd.N_nil _ _ _ _ _ | exact Kd.V_nil _ _ _ _ _ | exact Kd.Q_nil _ _ _ _ _ | exact Kd.S_nil _ _ _ _ _, by repeat (first | (with_reducible first | exact HB.out | apply below_alloc | apply pw_below_drewN | apply below_drew1) | exact HB.out)⟩
  · rw [if_neg c2] at H
    have c2b0 : decide ((a0.size : Int) < 16) = false := decide_eq_false c2
    have c2b1 : decide (a0.size < 16) = false := decide_eq_false (by omega)
    clear c2
    by_cases c3 : 0 ≤ 2
    · rw [if_pos c3] at H
      have c3b0 := eq_true c3
      have c3b1 : decide (0 ≤ 2) = true := decide_eq_true c3
      clear c3
      by_cases c4 : 2 ≤ (a0.size : Int)
      · rw [if_pos c4] at H
        have c4b0 := eq_true c4
        have c4b1 : decide (2 ≤ (a0.size : Int)) = true := decide_eq_true c4
        clear c4
        replace H := Option.bind_eq_some_iff.mp H
        obtain ⟨t333, A50, H⟩ := H
        replace H : ((vinculumref10_long.f k a0 12).bind fun t334 => (if t333 = 12 then (vinculumref10_Get.j0 k a0 t333 t334 false) else (vinculumref10_Get.j0 k a0 t333 t334 (t333 != 13)))) = some (r1, r2) := H
        have A5 := Aside0.mk A50
        clear A50
        replace H := Option.bind_eq_some_iff.mp H
        obtain ⟨t334, A60, H⟩ := H
        replace H : (if t333 = 12 then (vinculumref10_Get.j0 k a0 t333 t334 false) else (vinculumref10_Get.j0 k a0 t333 t334 (t333 != 13))) = some (r1, r2) := H
        have A6 := Aside0.mk A60
        clear A60
        have HC7 := Aside0.mk H
        clear H
        go_enter Try.func29, Try.ntmps29
        go_upto_region 5 with (first | ((with_reducible refine gate_callee (f := 66) rfl ?_); refine goesL_ (some 14) rfl rfl Try.func66 (by kernel_rfl) rfl #[.string (a0.extract 0 2), .int .i64 2] rfl (by (try simp only [List.map_toArray, List.map_cons, List.map_nil]); first | done | rfl | (simp only [List.length_drop, List.length_take]; rfl)) ?_; (with_reducible refine (vinculumref03_One.calls k (a0.extract 0 2) 2 t333 _ A5.out).mono ?_); rintro e w' ⟨rfl, ⟨nd, rfl⟩⟩; refine ⟨_, rfl, ?_⟩) | ((with_reducible refine gate_callee (f := 67) rfl ?_); refine goesL_ (some 16) rfl rfl Try.func67 (by kernel_rfl) rfl #[.string a0, .int .i64 12] rfl (by (try simp only [List.map_toArray, List.map_cons, List.map_nil]); first | done | rfl | (simp only [List.length_drop, List.length_take]; rfl)) ?_; (with_reducible refine (vinculumref10_long.calls k a0 12 t334 _ A6.out).mono ?_); rintro e w' ⟨rfl, ⟨nd, rfl⟩⟩; refine ⟨_, rfl, ?_⟩))
        (try simp only [Act.put, List.setIfInBounds_toArray, List.set_cons_zero, List.set_cons_succ])
        go_cut [22] (fun v22 wc => ∃ (kq : Nat) (x22_6 : Bool), v22 = .bool x22_6 ∧ Aside0 (vinculumref10_Get.j0 kq a0 t333 t334 x22_6 = some (r1, r2)) ∧ Aside0 (kq ≤ k) ∧ Aside0 (Below w.heap.size w wc))
        case first =>
          have H := HC7.out
          clear HC7
          by_cases c8 : t333 = 12
          · rw [if_pos c8] at H
            have c8b0 : (t333 == 12) = true := beq_iff_eq.mpr c8
            have c8b1 : (t333 != 12) = false := bne_eq_false_iff_eq.mpr c8
            clear c8
            (first | rw [c8b0] | (simp only [i64_w, i32_w]; rw [c8b0]) | skip)
            have H' := Aside0.mk H
            clear H
            go_wp2
            go_meet
            case rel => exact ⟨_, (false), (by first | rfl | (simp; done) | (simp [*]; done)), H', ⟨by first | omega | exact Nat.le_refl _⟩, ⟨by repeat (first | (with_reducible first | exact HB.out | apply below_alloc | apply pw_below_drewN | apply below_drew1) | exact HB.out)⟩⟩
          · rw [if_neg c8] at H
            have c8b0 : (t333 == 12) = false := beq_eq_false_iff_ne.mpr c8
            have c8b1 : (t333 != 12) = true := bne_iff_ne.mpr c8
            (first | rw [c8b0] | (simp only [i64_w, i32_w]; rw [c8b0]) | skip)
            have H' := Aside0.mk H
            clear H
            go_wp2
            go_meet
            case rel => exact ⟨_, ((t333 != 13)), (by first | rfl | (simp; done) | (simp [*]; done)), H', ⟨by first | omega | exact Nat.le_refl _⟩, ⟨by repeat (first | (with_reducible first | exact HB.out | apply below_alloc | apply pw_below_drewN | apply below_drew1) | exact HB.out)⟩⟩
        case rest =>
          clear HC7
          try clear c2
          try clear c2b0
          try clear c2b1
          try clear p2
          try clear c3
          try clear c3b0
          try clear c3b1
          try clear c4
          try clear c4b0
          try clear c4b1
          try clear c6
          try clear c8
          try clear c8b0
          try clear c8b1
          obtain ⟨kq, x22_6, rfl, HA, HJ6, HB⟩ := hcut
          cases kq with
          | zero => exact absurd HA.out (by simp [vinculumref10_Get.j0])
          | succ kj6 =>
            have H := HA.out
            clear HA
            simp only [vinculumref10_Get.j0] at H
            by_cases c9 : x22_6 = true
            · subst c9
              have H1 : (some (([] : List (S42)), 5)) = some (r1, r2) := by rw [if_pos rfl] at H; exact H
              clear H
              have H := H1
              clear H1
              simp only [Option.some.injEq, Prod.mk.injEq] at H
              obtain ⟨rfl, rfl⟩ := H
              go_wp2
              go_ret2
              exact ⟨_, by first | rfl | (simp [errW_none, errW_some] <;> rfl) | (simp [*, errW_none, errW_some] <;> rfl), by first | exact Kd.R_nil _ _ _ _ _ | exact Kd.N_nil _ _ _ _ _ | exact Kd.V_nil _ _ _ _ _ | exact Kd.Q_nil _ _ _ _ _ | exact Kd.S_nil _ _ _ _ _, by repeat (first | (with_reducible first | exact HB.out | apply below_alloc | apply pw_below_drewN | apply below_drew1) | exact HB.out)⟩
            · replace c9 := Bool.eq_false_iff.mpr c9
              subst c9
              have H1 : (if t334 > 65536 then (some (([] : List (S42)), 7)) else ((vinculumref10_long.f kj6 a0 4).bind fun t335 => (if t335 = (wrap64 (16 + (wrap64 (12 * t334)))) then (if (a0.size : Int) < (wrap64 (16 + (wrap64 (12 * t334)))) then (some (([] : List (S42)), 4)) else (vinculumref10_Get.l0 kj6 a0 t333 t334 ([] : List (S42)) 0)) else (some (([] : List (S42)), 5))))) = some (r1, r2) := by rw [if_neg (show ¬ (false = true) by decide)] at H; exact H
              clear H
              have H := H1
              clear H1
              by_cases c10 : t334 > 65536
              · rw [if_pos c10] at H
                have c10b0 : decide (65536 < t334) = true := decide_eq_true c10
                clear c10
                simp only [Option.some.injEq, Prod.mk.injEq] at H
                obtain ⟨rfl, rfl⟩ := H
                go_wp2
                go_ret2
                exact ⟨_, by first | rfl | (simp [errW_none, errW_some] <;> rfl) | (simp [*, errW_none, errW_some] <;> rfl), by first | exact Kd.R_nil _ _ _ _ _ | exact Kd.N_nil _ _ _ _ _ | exact Kd.V_nil _ _ _ _ _ | exact Kd.Q_nil _ _ _ _ _ | exact Kd.S_nil _ _ _ _ _, by repeat (first | (with_reducible first | exact HB.out | apply below_alloc | apply pw_below_drewN | apply below_drew1) | exact HB.out)⟩
              · rw [if_neg c10] at H
                have c10b0 : decide (65536 < t334) = false := decide_eq_false c10
                clear c10
                replace H := Option.bind_eq_some_iff.mp H
                obtain ⟨t335, A110, H⟩ := H
                replace H : (if t335 = (wrap64 (16 + (wrap64 (12 * t334)))) then (if (a0.size : Int) < (wrap64 (16 + (wrap64 (12 * t334)))) then (some (([] : List (S42)), 4)) else (vinculumref10_Get.l0 kj6 a0 t333 t334 ([] : List (S42)) 0)) else (some (([] : List (S42)), 5))) = some (r1, r2) := H
                have A11 := Aside0.mk A110
                clear A110
                by_cases c12 : t335 = (wrap64 (16 + (wrap64 (12 * t334))))
                · rw [if_pos c12] at H
                  have c12b0 : (t335 == (wrap64 (16 + (wrap64 (12 * t334))))) = true := beq_iff_eq.mpr c12
                  have c12b1 : (t335 != (wrap64 (16 + (wrap64 (12 * t334))))) = false := bne_eq_false_iff_eq.mpr c12
                  clear c12
                  by_cases c13 : (a0.size : Int) < (wrap64 (16 + (wrap64 (12 * t334))))
                  · rw [if_pos c13] at H
                    have c13b0 : decide ((a0.size : Int) < (wrap64 (16 + (wrap64 (12 * t334))))) = true := decide_eq_true c13
                    clear c13
                    simp only [Option.some.injEq, Prod.mk.injEq] at H
                    obtain ⟨rfl, rfl⟩ := H
                    go_wp2_with (first | ((with_reducible refine gate_callee (f := 67) rfl ?_); refine goesL_ (some 26) rfl rfl Try.func67 (by kernel_rfl) rfl #[.string a0, .int .i64 4] rfl (by (try simp only [List.map_toArray, List.map_cons, List.map_nil]); first | done | rfl | (simp only [List.length_drop, List.length_take]; rfl)) ?_; (with_reducible refine (vinculumref10_long.calls kj6 a0 4 t335 _ A11.out).mono ?_); rintro e w' ⟨rfl, ⟨nd, rfl⟩⟩; refine ⟨_, rfl, ?_⟩))
                    go_ret2
                    exact ⟨_, by first | rfl | (simp [errW_none, errW_some] <;> rfl) | (simp [*, errW_none, errW_some] <;> rfl), by first | exact Kd.R_nil _ _ _ _ _ | exact Kd.N_nil _ _ _ _ _ | exact Kd.V_nil _ _ _ _ _ | exact Kd.Q_nil _ _ _ _ _ | exact Kd.S_nil _ _ _ _ _, by repeat (first | (with_reducible first | exact HB.out | apply below_alloc | apply pw_below_drewN | apply below_drew1) | exact HB.out)⟩
                  · rw [if_neg c13] at H
                    have c13b0 : decide ((a0.size : Int) < (wrap64 (16 + (wrap64 (12 * t334))))) = false := decide_eq_false c13
                    clear c13
                    have H' := Aside0.mk H
                    clear H
                    go_wp2_with (first | ((with_reducible refine gate_callee (f := 67) rfl ?_); refine goesL_ (some 26) rfl rfl Try.func67 (by kernel_rfl) rfl #[.string a0, .int .i64 4] rfl (by (try simp only [List.map_toArray, List.map_cons, List.map_nil]); first | done | rfl | (simp only [List.length_drop, List.length_take]; rfl)) ?_; (with_reducible refine (vinculumref10_long.calls kj6 a0 4 t335 _ A11.out).mono ?_); rintro e w' ⟨rfl, ⟨nd, rfl⟩⟩; refine ⟨_, rfl, ?_⟩))
                    go_loopg [6, 7] kj6 (fun kq v6 v7 w' => ∃ (x6_2 : List (S42)) (x7_2 : Int), v7 = .int .i64 x7_2 ∧ Aside0 (vinculumref10_Get.l0 kq a0 t333 t334 x6_2 x7_2 = some (r1, r2)) ∧ Aside0 (kq ≤ kj6) ∧ Aside0 (Kd.R k42 42 w' w.heap.size (fun _ => True) v6 x6_2) ∧ Aside0 (Below w.heap.size w w'))
                    case atStart => exact ⟨(([] : List (S42))), (0), (by first | rfl | (simp; done) | (simp [*]; done)), H', ⟨Nat.le_refl _⟩, ⟨by first | exact Kd.R_nil _ _ _ _ _ | exact Kd.N_nil _ _ _ _ _ | exact Kd.V_nil _ _ _ _ _ | exact Kd.Q_nil _ _ _ _ _ | exact Kd.S_nil _ _ _ _ _⟩, ⟨by repeat (first | (with_reducible first | exact HB.out | apply below_alloc | apply pw_below_drewN | apply below_drew1) | exact HB.out)⟩⟩
                    case round =>
                      clear H'
                      try clear c1
                      try clear c2
                      try clear c2b0
                      try clear c2b1
                      try clear p2
                      try clear c3
                      try clear c3b0
                      try clear c3b1
                      try clear c4
                      try clear c4b0
                      try clear c4b1
                      try clear c6
                      try clear p6
                      try clear c8
                      try clear c8b0
                      try clear c8b1
                      try clear c9
                      try clear c10
                      try clear c10b0
                      try clear c12
                      try clear c12b0
                      try clear c12b1
                      try clear c13
                      try clear c13b0
                      try clear p2
                      obtain ⟨x6_2, x7_2, rfl, HA, HK2, HO_6, HB⟩ := hrel
                      cases gk with
                      | zero => exact absurd HA.out (by simp [vinculumref10_Get.l0])
                      | succ k2 =>
                        have H := HA.out
                        clear HA
                        simp only [vinculumref10_Get.l0] at H
                        by_cases c14 : x7_2 < t334
                        · rw [if_pos c14] at H
                          have c14b0 : decide (x7_2 < t334) = true := decide_eq_true c14
                          clear c14
                          replace H := Option.bind_eq_some_iff.mp H
                          obtain ⟨t336, A150, H⟩ := H
                          replace H : ((vinculumref10_long.f k2 a0 (wrap64 ((wrap64 (16 + (wrap64 (12 * x7_2)))) + 4))).bind fun t337 => ((vinculumref10_long.f k2 a0 (wrap64 ((wrap64 (16 + (wrap64 (12 * x7_2)))) + 8))).bind fun t338 => (if x6_2.length < 4398046511104 then (vinculumref10_Get.l0 k2 a0 t333 t334 (x6_2 ++ [(⟨t336, t337, t338, wrap64 (13 - t333)⟩ : S42)]) (wrap64 (x7_2 + 1))) else (none)))) = some (r1, r2) := H
                          have A15 := Aside0.mk A150
                          clear A150
                          replace H := Option.bind_eq_some_iff.mp H
                          obtain ⟨t337, A160, H⟩ := H
                          replace H : ((vinculumref10_long.f k2 a0 (wrap64 ((wrap64 (16 + (wrap64 (12 * x7_2)))) + 8))).bind fun t338 => (if x6_2.length < 4398046511104 then (vinculumref10_Get.l0 k2 a0 t333 t334 (x6_2 ++ [(⟨t336, t337, t338, wrap64 (13 - t333)⟩ : S42)]) (wrap64 (x7_2 + 1))) else (none))) = some (r1, r2) := H
                          have A16 := Aside0.mk A160
                          clear A160
                          replace H := Option.bind_eq_some_iff.mp H
                          obtain ⟨t338, A170, H⟩ := H
                          replace H : (if x6_2.length < 4398046511104 then (vinculumref10_Get.l0 k2 a0 t333 t334 (x6_2 ++ [(⟨t336, t337, t338, wrap64 (13 - t333)⟩ : S42)]) (wrap64 (x7_2 + 1))) else (none)) = some (r1, r2) := H
                          have A17 := Aside0.mk A170
                          clear A170
                          by_cases c18 : x6_2.length < 4398046511104
                          · rw [if_pos c18] at H
                            have LMc18 := Aside0.mk c18
                            clear c18
                            obtain ⟨y339, hy339⟩ : ∃ y_ : List (S42), y_ = (x6_2 ++ [(⟨t336, t337, t338, wrap64 (13 - t333)⟩ : S42)]) := ⟨_, rfl⟩
                            replace H : (vinculumref10_Get.l0 k2 a0 t333 t334 y339 (wrap64 (x7_2 + 1))) = some (r1, r2) := by first | (rw [hy339]; with_reducible exact H) | (have H2_ := (Option.bind_some _ _).symm.trans H; rw [hy339]; with_reducible exact H2_) | (have H2_ := (Option.bind_some _ _).symm.trans H; with_reducible exact H2_) | with_reducible exact H | (rw [hy339]; exact H) | exact H
                            have Ny339 := Aside0.mk hy339
                            clear hy339
                            have H' := Aside0.mk H
                            clear H
                            go_wp2_with (first | ((with_reducible refine gate_callee (f := 67) rfl ?_); refine goesL_ (some 48) rfl rfl Try.func67 (by kernel_rfl) rfl #[.string a0, .int .i64 (wrap64 (16 + (wrap64 (12 * x7_2))))] rfl (by (try simp only [List.map_toArray, List.map_cons, List.map_nil]); first | done | rfl | (simp only [List.length_drop, List.length_take]; rfl)) ?_; (with_reducible refine (vinculumref10_long.calls k2 a0 (wrap64 (16 + (wrap64 (12 * x7_2)))) t336 _ A15.out).mono ?_); rintro e w' ⟨rfl, ⟨nd, rfl⟩⟩; refine ⟨_, rfl, ?_⟩) | ((with_reducible refine gate_callee (f := 67) rfl ?_); refine goesL_ (some 52) rfl rfl Try.func67 (by kernel_rfl) rfl #[.string a0, .int .i64 (wrap64 ((wrap64 (16 + (wrap64 (12 * x7_2)))) + 4))] rfl (by (try simp only [List.map_toArray, List.map_cons, List.map_nil]); first | done | rfl | (simp only [List.length_drop, List.length_take]; rfl)) ?_; (with_reducible refine (vinculumref10_long.calls k2 a0 (wrap64 ((wrap64 (16 + (wrap64 (12 * x7_2)))) + 4)) t337 _ A16.out).mono ?_); rintro e w' ⟨rfl, ⟨nd, rfl⟩⟩; refine ⟨_, rfl, ?_⟩) | ((with_reducible refine gate_callee (f := 67) rfl ?_); refine goesL_ (some 56) rfl rfl Try.func67 (by kernel_rfl) rfl #[.string a0, .int .i64 (wrap64 ((wrap64 (16 + (wrap64 (12 * x7_2)))) + 8))] rfl (by (try simp only [List.map_toArray, List.map_cons, List.map_nil]); first | done | rfl | (simp only [List.length_drop, List.length_take]; rfl)) ?_; (with_reducible refine (vinculumref10_long.calls k2 a0 (wrap64 ((wrap64 (16 + (wrap64 (12 * x7_2)))) + 8)) t338 _ A17.out).mono ?_); rintro e w' ⟨rfl, ⟨nd, rfl⟩⟩; refine ⟨_, rfl, ?_⟩) | ((with_reducible refine gate_builtin (b := .append) (xs := #[.tmp 45, .tmp 60]) rfl ?_); at_builtin; refine Kd.R_append k42 (w0 := w) w.heap.size rfl (.tmp 45) (.tmp 60) 22 42 (.agg #[(.int .i64 0), (.int .i64 0), (.int .i64 0), (.int .i64 0)]) 32 rfl Try.underlying22 info42 rfl (by decide) (by omega) u6 x6_2 (⟨t336, t337, t338, wrap64 (13 - t333)⟩ : S42) [.int .i64 t336, .int .i64 t337, .int .i64 t338, .int .i64 (wrap64 (13 - t333))] (fun _ => True) (fun _ => False) rfl rfl ?aP (fun _ hk => hk.elim) ?aF ?aO ?aB ?aS ?aL ?_; (case aP => exact k42_mkM _ _ _ (⟨t336, t337, t338, wrap64 (13 - t333)⟩ : S42)); (case aB => exact (by repeat (first | (with_reducible first | exact HB.out | apply below_alloc | apply pw_below_drewN | apply below_drew1) | exact HB.out))); (case aF => exact (fun _ _ => trivial)); (case aO => exact (by (with_reducible repeat (first | apply Kd.R_alloc | apply Kd.R_drewN | apply Kd.R_drew)); exact HO_6.out)); (case aS => exact (below_size (by repeat (first | (with_reducible first | exact HB.out | apply below_alloc | apply pw_below_drewN | apply below_drew1) | exact HB.out)))); (case aL => have := LMc18.out; omega); intro v340 w19 ho hb hg hat; rw [← Ny339.out] at ho; have n0_ := Aside0.mk (hb); have n1_ := Aside0.mk (ho); clear HB; clear HO_6; have HB := n0_; have HO341 := n1_; clear n0_ n1_; clear ho hb hg hat))
                            go_roundg k2
                            case measure => have := HJ6.out; have := HK2.out; omega
                            case rel => exact ⟨(y339), (wrap64 (x7_2 + 1)), (by first | rfl | (simp; done) | (simp [*]; done)), H', ⟨by have := HJ6.out; have := HK2.out; omega⟩, ⟨by (with_reducible repeat (first | apply Kd.R_alloc | apply Kd.R_drewN | apply Kd.R_drew)); exact HO341.out⟩, ⟨by repeat (first | (with_reducible first | exact HB.out | apply below_alloc | apply pw_below_drewN | apply below_drew1) | exact HB.out)⟩⟩
                          · rw [if_neg c18] at H
                            exact absurd H (by simp)
                        · rw [if_neg c14] at H
                          have c14b0 : decide (x7_2 < t334) = false := decide_eq_false c14
                          clear c14
                          replace H := Option.bind_eq_some_iff.mp H
                          obtain ⟨t342, A200, H⟩ := H
                          replace H : (if t342 = true then (some (x6_2, 0)) else (some (([] : List (S42)), 5))) = some (r1, r2) := H
                          have A20 := Aside0.mk A200
                          clear A200
                          by_cases c21 : t342 = true
                          · subst c21
                            have H1 : (some (x6_2, 0)) = some (r1, r2) := by rw [if_pos rfl] at H; exact H
                            clear H
                            have H := H1
                            clear H1
                            simp only [Option.some.injEq, Prod.mk.injEq] at H
                            obtain ⟨rfl, rfl⟩ := H
                            obtain ⟨Ao22, co22, eo22⟩ := Kd.R_slice HO_6.out
                            subst eo22
                            go_wp2_with (first | ((with_reducible refine gate_callee (f := 46) rfl ?_); refine goesL_ (some 63) rfl rfl Try.func46 (by kernel_rfl) rfl #[.slice Ao22 x6_2.length co22] rfl (by (try simp only [List.map_toArray, List.map_cons, List.map_nil]); first | done | rfl | (simp only [List.length_drop, List.length_take]; rfl)) ?_; (with_reducible refine (vinculumref08_Is.calls k2 _ _ x6_2 true _ ?side1 ?side2 A20.out).mono ?_); (case side1 => repeat (first | exact (Kd.R_reads' HO_6.out).2.2 | (with_reducible refine Kd.C_alloc ?_ _) | (with_reducible refine Kd.C_drewN ?_ _) | (with_reducible refine Kd.C_drew ?_))); (case side2 => exact (Kd.R_reads' HO_6.out).2.1); rintro e w23 ⟨rfl, hb⟩; refine ⟨_, rfl, ?_⟩; have n0_ := Aside0.mk (Kd.R_below (by (with_reducible repeat (first | apply Kd.R_alloc | apply Kd.R_drewN | apply Kd.R_drew)); exact HO_6.out) hb); have n1_ := Aside0.mk (below_step (by repeat (first | (with_reducible first | exact HB.out | apply below_alloc | apply pw_below_drewN | apply below_drew1) | exact HB.out)) hb); clear HO_6; clear HB; have HO_6 := n0_; have HB := n1_; clear n0_ n1_; (try clear hb); (try clear hb2); (try clear hk); (try clear hi)))
                            go_ret2
                            exact ⟨_, by first | rfl | (simp [errW_none, errW_some] <;> rfl) | (simp [*, errW_none, errW_some] <;> rfl), by (with_reducible repeat (first | apply Kd.R_alloc | apply Kd.R_drewN | apply Kd.R_drew)); exact HO_6.out, by repeat (first | (with_reducible first | exact HB.out | apply below_alloc | apply pw_below_drewN | apply below_drew1) | exact HB.out)⟩
                          · replace c21 := Bool.eq_false_iff.mpr c21
                            subst c21
                            have H1 : (some (([] : List (S42)), 5)) = some (r1, r2) := by rw [if_neg (show ¬ (false = true) by decide)] at H; exact H
                            clear H
                            have H := H1
                            clear H1
                            simp only [Option.some.injEq, Prod.mk.injEq] at H
                            obtain ⟨rfl, rfl⟩ := H
                            obtain ⟨Ao24, co24, eo24⟩ := Kd.R_slice HO_6.out
                            subst eo24
                            go_wp2_with (first | ((with_reducible refine gate_callee (f := 46) rfl ?_); refine goesL_ (some 63) rfl rfl Try.func46 (by kernel_rfl) rfl #[.slice Ao24 x6_2.length co24] rfl (by (try simp only [List.map_toArray, List.map_cons, List.map_nil]); first | done | rfl | (simp only [List.length_drop, List.length_take]; rfl)) ?_; (with_reducible refine (vinculumref08_Is.calls k2 _ _ x6_2 false _ ?side1 ?side2 A20.out).mono ?_); (case side1 => repeat (first | exact (Kd.R_reads' HO_6.out).2.2 | (with_reducible refine Kd.C_alloc ?_ _) | (with_reducible refine Kd.C_drewN ?_ _) | (with_reducible refine Kd.C_drew ?_))); (case side2 => exact (Kd.R_reads' HO_6.out).2.1); rintro e w25 ⟨rfl, hb⟩; refine ⟨_, rfl, ?_⟩; have n0_ := Aside0.mk (Kd.R_below (by (with_reducible repeat (first | apply Kd.R_alloc | apply Kd.R_drewN | apply Kd.R_drew)); exact HO_6.out) hb); have n1_ := Aside0.mk (below_step (by repeat (first | (with_reducible first | exact HB.out | apply below_alloc | apply pw_below_drewN | apply below_drew1) | exact HB.out)) hb); clear HO_6; clear HB; have HO_6 := n0_; have HB := n1_; clear n0_ n1_; (try clear hb); (try clear hb2); (try clear hk); (try clear hi)))
                            go_ret2
                            exact ⟨_, by first | rfl | (simp [errW_none, errW_some] <;> rfl) | (simp [*, errW_none, errW_some] <;> rfl), by first | exact Kd.R_nil _ _ _ _ _ | exact Kd.N_nil _ _ _ _ _ | exact Kd.V_nil _ _ _ _ _ | exact Kd.Q_nil _ _ _ _ _ | exact Kd.S_nil _ _ _ _ _, by repeat (first | (with_reducible first | exact HB.out | apply below_alloc | apply pw_below_drewN | apply below_drew1) | exact HB.out)⟩
                · rw [if_neg c12] at H
                  have c12b0 : (t335 == (wrap64 (16 + (wrap64 (12 * t334))))) = false := beq_eq_false_iff_ne.mpr c12
                  have c12b1 : (t335 != (wrap64 (16 + (wrap64 (12 * t334))))) = true := bne_iff_ne.mpr c12
                  simp only [Option.some.injEq, Prod.mk.injEq] at H
                  obtain ⟨rfl, rfl⟩ := H
                  go_wp2_with (first | ((with_reducible refine gate_callee (f := 67) rfl ?_); refine goesL_ (some 26) rfl rfl Try.func67 (by kernel_rfl) rfl #[.string a0, .int .i64 4] rfl (by (try simp only [List.map_toArray, List.map_cons, List.map_nil]); first | done | rfl | (simp only [List.length_drop, List.length_take]; rfl)) ?_; (with_reducible refine (vinculumref10_long.calls kj6 a0 4 t335 _ A11.out).mono ?_); rintro e w' ⟨rfl, ⟨nd, rfl⟩⟩; refine ⟨_, rfl, ?_⟩))
                  go_ret2
                  exact ⟨_, by first | rfl | (simp [errW_none, errW_some] <;> rfl) | (simp [*, errW_none, errW_some] <;> rfl), by first | exact Kd.R_nil _ _ _ _ _ | exact Kd.N_nil _ _ _ _ _ | exact Kd.V_nil _ _ _ _ _ | exact Kd.Q_nil _ _ _ _ _ | exact Kd.S_nil _ _ _ _ _, by repeat (first | (with_reducible first | exact HB.out | apply below_alloc | apply pw_below_drewN | apply below_drew1) | exact HB.out)⟩
      · rw [if_neg c4] at H
        exact absurd H (by simp)
    · rw [if_neg c3] at H
      exact absurd H (by simp)
mutual
def vinculumref10_Split.j0 : Nat → List (S42) → Int → Bool → Option ((List (S42)) × Int)
  | 0, _, _, _ => none
  | k + 1, x0, x1, x21 => if x21 = true then (some (([] : List (S42)), 1)) else (vinculumref10_Split.l0 k x0 x1 ([] : List (S42)) 0)
def vinculumref10_Split.l0 : Nat → List (S42) → Int → List (S42) → Int → Option ((List (S42)) × Int)
  | 0, _, _, _, _ => none
  | k + 1, x0, x1, x6, x7 => if x7 < (x0.length : Int) then (if 0 ≤ x7 then (if ((rd_T42 x0 x7).f3) = x1 then (vinculumref10_Split.j2 k x0 x1 x6 x7 true ((rd_T42 x0 x7).f0) ((rd_T42 x0 x7).f1) ((rd_T42 x0 x7).f2) ((rd_T42 x0 x7).f3)) else (vinculumref10_Split.j2 k x0 x1 x6 x7 (((rd_T42 x0 x7).f0) == ((rd_T42 x0 x7).f1)) ((rd_T42 x0 x7).f0) ((rd_T42 x0 x7).f1) ((rd_T42 x0 x7).f2) ((rd_T42 x0 x7).f3))) else (none)) else (if (x6.length : Int) > 65536 then (some (([] : List (S42)), 7)) else (some (x6, 0)))
def vinculumref10_Split.j2 : Nat → List (S42) → Int → List (S42) → Int → Bool → Int → Int → Int → Int → Option ((List (S42)) × Int)
  | 0, _, _, _, _, _, _, _, _, _ => none
  | k + 1, x0, x1, x6, x7, x42, x346000, x346001, x346002, x346003 => if x42 = true then (if x346002 > 0 then (if x6.length < 4398046511104 then (vinculumref10_Split.l0 k x0 x1 (x6 ++ [(⟨x346000, x346001, x346002, x1⟩ : S42)]) (wrap64 (x7 + 1))) else (none)) else (if x346003 = 1 then (if x346001 > x346000 then (if x6.length < 4398046511104 then (vinculumref10_Split.l0 k x0 x1 (x6 ++ [(⟨x346000, x346001, x346002, x1⟩ : S42)]) (wrap64 (x7 + 1))) else (none)) else (vinculumref10_Split.l0 k x0 x1 x6 (wrap64 (x7 + 1)))) else (vinculumref10_Split.l0 k x0 x1 x6 (wrap64 (x7 + 1))))) else (vinculumref10_Split.l1 k x0 x1 x6 x7 x346000 x346000 x346001 x346002 x346003)
def vinculumref10_Split.l1 : Nat → List (S42) → Int → List (S42) → Int → Int → Int → Int → Int → Int → Option ((List (S42)) × Int)
  | 0, _, _, _, _, _, _, _, _, _ => none
  | k + 1, x0, x1, x6, x7, x9, x346000, x346001, x346002, x346003 => if x9 ≤ x346001 then (if (wrap64 (x346002 + (wrap64 (x346003 * (wrap64 (x9 - x346000)))))) > 0 then (if x6.length < 4398046511104 then ((some (x6 ++ [(⟨x9, x9, wrap64 (x346002 + (wrap64 (x346003 * (wrap64 (x9 - x346000))))), x1⟩ : S42)] : List (S42))).bind fun y352 => (if (y352.length : Int) > 65536 then (some (([] : List (S42)), 7)) else (vinculumref10_Split.l1 k x0 x1 y352 x7 (wrap64 (x9 + 1)) x346000 x346001 x346002 x346003))) else (none)) else (if (x6.length : Int) > 65536 then (some (([] : List (S42)), 7)) else (vinculumref10_Split.l1 k x0 x1 x6 x7 (wrap64 (x9 + 1)) x346000 x346001 x346002 x346003))) else (vinculumref10_Split.l0 k x0 x1 x6 (wrap64 (x7 + 1)))
end
def vinculumref10_Split.f (k : Nat) (l0 : List (S42)) (a1 : Int) : Option ((List (S42)) × Int) := (vinculumref08_Is.f k l0).bind fun t343 => (if t343 = true then (if a1 < 0 then (vinculumref10_Split.j0 k l0 a1 true) else (vinculumref10_Split.j0 k l0 a1 (decide (a1 > 1)))) else (vinculumref10_Split.j0 k l0 a1 true))
set_option maxHeartbeats 8000000 in
set_option maxRecDepth 100000 in
theorem vinculumref10_Split.calls (k : Nat) (A0 : Option Addr) (c0 : Nat) (l0 : List (S42)) (a1 : Int) (r1 : List (S42)) (r2 : Int) (w : World) (hr0 : Kd.C k42 w A0 l0.length l0) (hc0 : l0.length ≤ c0) (h : vinculumref10_Split.f k l0 a1 = some (r1, r2)) :
    Calls Try.prog 31 #[.slice A0 l0.length c0, .int .i64 a1] w fun e w' => ∃ v0_ : Value, e = .returned (.tuple #[v0_, .int .i64 r2]) ∧ Kd.R k42 42 w' w.heap.size (fun _ => True) v0_ r1 ∧ Below w.heap.size w w' := by
  have hu42 := Try.underlying42
  have HR0 := Aside0.mk hr0
  have HC0 := Aside0.mk hc0
  clear hr0 hc0
  have HB := Aside0.mk (Below.refl w.heap.size w)
  have H : ((vinculumref08_Is.f k l0).bind fun t343 => (if t343 = true then (if a1 < 0 then (vinculumref10_Split.j0 k l0 a1 true) else (vinculumref10_Split.j0 k l0 a1 (decide (a1 > 1)))) else (vinculumref10_Split.j0 k l0 a1 true))) = some (r1, r2) := h
  clear h
  have HC3 := Aside0.mk H
  clear H
  go_enter Try.func31, Try.ntmps31
  go_upto_region 1 with (fail)
  go_cut [21] (fun v21 wc => ∃ (kq : Nat) (x21_2 : Bool), v21 = .bool x21_2 ∧ Aside0 (vinculumref10_Split.j0 kq l0 a1 x21_2 = some (r1, r2)) ∧ Aside0 (kq ≤ k) ∧ Aside0 (Below w.heap.size w wc))
  case first =>
    have H := HC3.out
    clear HC3
    replace H := Option.bind_eq_some_iff.mp H
    obtain ⟨t343, A40, H⟩ := H
    replace H : (if t343 = true then (if a1 < 0 then (vinculumref10_Split.j0 k l0 a1 true) else (vinculumref10_Split.j0 k l0 a1 (decide (a1 > 1)))) else (vinculumref10_Split.j0 k l0 a1 true)) = some (r1, r2) := H
    have A4 := Aside0.mk A40
    clear A40
    by_cases c5 : t343 = true
    · subst c5
      have H1 : (if a1 < 0 then (vinculumref10_Split.j0 k l0 a1 true) else (vinculumref10_Split.j0 k l0 a1 (decide (a1 > 1)))) = some (r1, r2) := by rw [if_pos rfl] at H; exact H
      clear H
      have H := H1
      clear H1
      by_cases c6 : a1 < 0
      · rw [if_pos c6] at H
        have c6b0 : decide (a1 < 0) = true := decide_eq_true c6
        clear c6
        (first | rw [c6b0] | (simp only [i64_w, i32_w]; rw [c6b0]) | skip)
        have H' := Aside0.mk H
        clear H
        go_wp2_with (first | ((with_reducible refine gate_callee (f := 46) rfl ?_); refine goesL_ (some 12) rfl rfl Try.func46 (by kernel_rfl) rfl #[.slice A0 l0.length c0] rfl (by (try simp only [List.map_toArray, List.map_cons, List.map_nil]); first | done | rfl | (simp only [List.length_drop, List.length_take]; rfl)) ?_; (with_reducible refine (vinculumref08_Is.calls k _ _ l0 true _ ?side1 ?side2 A4.out).mono ?_); (case side1 => repeat (first | exact (Kd.C_below HR0.out HB.out) | (with_reducible refine Kd.C_alloc ?_ _) | (with_reducible refine Kd.C_drewN ?_ _) | (with_reducible refine Kd.C_drew ?_))); (case side2 => exact HC0.out); rintro e w7 ⟨rfl, hb⟩; refine ⟨_, rfl, ?_⟩; have n0_ := Aside0.mk (below_step (by repeat (first | (with_reducible first | exact HB.out | apply below_alloc | apply pw_below_drewN | apply below_drew1) | exact HB.out)) hb); clear HB; have HB := n0_; clear n0_; (try clear hb); (try clear hb2); (try clear hk); (try clear hi)))
        go_meet
        case rel => exact ⟨_, (true), (by first | rfl | (simp; done) | (simp [*]; done)), H', ⟨by first | omega | exact Nat.le_refl _⟩, ⟨by repeat (first | (with_reducible first | exact HB.out | apply below_alloc | apply pw_below_drewN | apply below_drew1) | exact HB.out)⟩⟩
      · rw [if_neg c6] at H
        have c6b0 : decide (a1 < 0) = false := decide_eq_false c6
        clear c6
        (first | rw [c6b0] | (simp only [i64_w, i32_w]; rw [c6b0]) | skip)
        have H' := Aside0.mk H
        clear H
        go_wp2_with (first | ((with_reducible refine gate_callee (f := 46) rfl ?_); refine goesL_ (some 12) rfl rfl Try.func46 (by kernel_rfl) rfl #[.slice A0 l0.length c0] rfl (by (try simp only [List.map_toArray, List.map_cons, List.map_nil]); first | done | rfl | (simp only [List.length_drop, List.length_take]; rfl)) ?_; (with_reducible refine (vinculumref08_Is.calls k _ _ l0 true _ ?side1 ?side2 A4.out).mono ?_); (case side1 => repeat (first | exact (Kd.C_below HR0.out HB.out) | (with_reducible refine Kd.C_alloc ?_ _) | (with_reducible refine Kd.C_drewN ?_ _) | (with_reducible refine Kd.C_drew ?_))); (case side2 => exact HC0.out); rintro e w8 ⟨rfl, hb⟩; refine ⟨_, rfl, ?_⟩; have n0_ := Aside0.mk (below_step (by repeat (first | (with_reducible first | exact HB.out | apply below_alloc | apply pw_below_drewN | apply below_drew1) | exact HB.out)) hb); clear HB; have HB := n0_; clear n0_; (try clear hb); (try clear hb2); (try clear hk); (try clear hi)))
        go_meet
        case rel => exact ⟨_, (decide (a1 > 1)), (by first | rfl | (simp; done) | (simp [*]; done)), H', ⟨by first | omega | exact Nat.le_refl _⟩, ⟨by repeat (first | (with_reducible first | exact HB.out | apply below_alloc | apply pw_below_drewN | apply below_drew1) | exact HB.out)⟩⟩
    · replace c5 := Bool.eq_false_iff.mpr c5
      subst c5
      have H1 : (vinculumref10_Split.j0 k l0 a1 true) = some (r1, r2) := by rw [if_neg (show ¬ (false = true) by decide)] at H; exact H
      clear H
      have H := H1
      clear H1
      have H' := Aside0.mk H
      clear H
      go_wp2_with (first | ((with_reducible refine gate_callee (f := 46) rfl ?_); refine goesL_ (some 12) rfl rfl Try.func46 (by kernel_rfl) rfl #[.slice A0 l0.length c0] rfl (by (try simp only [List.map_toArray, List.map_cons, List.map_nil]); first | done | rfl | (simp only [List.length_drop, List.length_take]; rfl)) ?_; (with_reducible refine (vinculumref08_Is.calls k _ _ l0 false _ ?side1 ?side2 A4.out).mono ?_); (case side1 => repeat (first | exact (Kd.C_below HR0.out HB.out) | (with_reducible refine Kd.C_alloc ?_ _) | (with_reducible refine Kd.C_drewN ?_ _) | (with_reducible refine Kd.C_drew ?_))); (case side2 => exact HC0.out); rintro e w9 ⟨rfl, hb⟩; refine ⟨_, rfl, ?_⟩; have n0_ := Aside0.mk (below_step (by repeat (first | (with_reducible first | exact HB.out | apply below_alloc | apply pw_below_drewN | apply below_drew1) | exact HB.out)) hb); clear HB; have HB := n0_; clear n0_; (try clear hb); (try clear hb2); (try clear hk); (try clear hi)))
      go_meet
      case rel => exact ⟨_, (true), (by first | rfl | (simp; done) | (simp [*]; done)), H', ⟨by first | omega | exact Nat.le_refl _⟩, ⟨by repeat (first | (with_reducible first | exact HB.out | apply below_alloc | apply pw_below_drewN | apply below_drew1) | exact HB.out)⟩⟩
  case rest =>
    clear HC3
    try clear p2
    try clear c3
    try clear c4
    try clear c5
    try clear c6
    try clear c6b0
    obtain ⟨kq, x21_2, rfl, HA, HJ2, HB⟩ := hcut
    cases kq with
    | zero => exact absurd HA.out (by simp [vinculumref10_Split.j0])
    | succ kj2 =>
      have H := HA.out
      clear HA
      simp only [vinculumref10_Split.j0] at H
      by_cases c10 : x21_2 = true
      · subst c10
        have H1 : (some (([] : List (S42)), 1)) = some (r1, r2) := by rw [if_pos rfl] at H; exact H
        clear H
        have H := H1
        clear H1
        simp only [Option.some.injEq, Prod.mk.injEq] at H
        obtain ⟨rfl, rfl⟩ := H
        go_wp2
        go_ret2
        exact ⟨_, by first | rfl | (simp [errW_none, errW_some] <;> rfl) | (simp [*, errW_none, errW_some] <;> rfl), by first | exact Kd.R_nil _ _ _ _ _ | exact Kd.N_nil _ _ _ _ _ | exact Kd.V_nil _ _ _ _ _ | exact Kd.Q_nil _ _ _ _ _ | exact Kd.S_nil _ _ _ _ _, by repeat (first | (with_reducible first | exact HB.out | apply below_alloc | apply pw_below_drewN | apply below_drew1) | exact HB.out)⟩
      · replace c10 := Bool.eq_false_iff.mpr c10
        subst c10
        have H1 : (vinculumref10_Split.l0 kj2 l0 a1 ([] : List (S42)) 0) = some (r1, r2) := by rw [if_neg (show ¬ (false = true) by decide)] at H; exact H
        clear H
        have H := H1
        clear H1
        have H' := Aside0.mk H
        clear H
        go_wp2
        go_loopg [6, 7] kj2 (fun kq v6 v7 w' => ∃ (x6_2 : List (S42)) (x7_2 : Int), v7 = .int .i64 x7_2 ∧ Aside0 (vinculumref10_Split.l0 kq l0 a1 x6_2 x7_2 = some (r1, r2)) ∧ Aside0 (kq ≤ kj2) ∧ Aside0 (Kd.R k42 42 w' w.heap.size (fun _ => True) v6 x6_2) ∧ Aside0 (Below w.heap.size w w'))
        case atStart => exact ⟨(([] : List (S42))), (0), (by first | rfl | (simp; done) | (simp [*]; done)), H', ⟨Nat.le_refl _⟩, ⟨by first | exact Kd.R_nil _ _ _ _ _ | exact Kd.N_nil _ _ _ _ _ | exact Kd.V_nil _ _ _ _ _ | exact Kd.Q_nil _ _ _ _ _ | exact Kd.S_nil _ _ _ _ _⟩, ⟨by repeat (first | (with_reducible first | exact HB.out | apply below_alloc | apply pw_below_drewN | apply below_drew1) | exact HB.out)⟩⟩
        case round =>
          clear H'
          try clear c1
          try clear p2
          try clear c3
          try clear c4
          try clear c5
          try clear c6
          try clear c6b0
          try clear c10
          try clear p2
          obtain ⟨x6_2, x7_2, rfl, HA, HK2, HO_6, HB⟩ := hrel
          cases gk with
          | zero => exact absurd HA.out (by simp [vinculumref10_Split.l0])
          | succ k2 =>
            have H := HA.out
            clear HA
            simp only [vinculumref10_Split.l0] at H
            by_cases c11 : x7_2 < (l0.length : Int)
            · rw [if_pos c11] at H
              have c11b0 : decide (x7_2 < (l0.length : Int)) = true := decide_eq_true c11
              clear c11
              by_cases c12 : 0 ≤ x7_2
              · rw [if_pos c12] at H
                have c12b0 : decide (0 ≤ x7_2) = true := decide_eq_true c12
                clear c12
                have HC13 := Aside0.mk H
                clear H
                have p344 : 0 ≤ (x7_2 : Int) := of_decide_eq_true (by first | (with_reducible assumption) | assumption)
                have q344 : x7_2 < (l0.length : Int) := of_decide_eq_true (by first | (with_reducible assumption) | assumption)
                obtain ⟨ad344, e344, hx344_0, hx344_1, hx344_2, hx344_3⟩ := at_T42 HR0.out x7_2 p344 q344
                cases e344
                replace hx344_0 := (HB.out.cell (World.block_lt_of_cell? w _ hx344_0)).trans hx344_0
                replace hx344_1 := (HB.out.cell (World.block_lt_of_cell? w _ hx344_1)).trans hx344_1
                replace hx344_2 := (HB.out.cell (World.block_lt_of_cell? w _ hx344_2)).trans hx344_2
                replace hx344_3 := (HB.out.cell (World.block_lt_of_cell? w _ hx344_3)).trans hx344_3
                replace p344 := eq_true p344
                replace q344 := eq_true q344
                go_upto_region 8 with (first | ((with_reducible refine gate_dst (N := 8) rfl ?_); refine box_event ?hg (N := 8) ?hd (cs := #[.int .i64 0, .int .i64 0, .int .i64 0, .int .i64 0]) (t := 42) ?hr ?_; (case hd => rfl); (case hg => rfl); (case hr => first | (go_simp; done) | (go_simp; rfl)); intro gb345 hg w14 hbox hb; have n0_ := Aside0.mk (Kd.R_below (Kd.R_elderB (by (with_reducible repeat (first | apply Kd.R_alloc | apply Kd.R_drewN | apply Kd.R_drew)); exact HO_6.out) gb345 (Nat.le_of_eq hg.symm)) hb); have n1_ := Aside0.mk (below_step (by repeat (first | (with_reducible first | exact HB.out | apply below_alloc | apply pw_below_drewN | apply below_drew1) | exact HB.out)) hb); have n2_ := Aside0.mk (hbox); have n3_ := Aside0.mk ((by rw [hg]; exact (below_size (by repeat (first | (with_reducible first | exact HB.out | apply below_alloc | apply pw_below_drewN | apply below_drew1) | exact HB.out))) : w.heap.size ≤ gb345)); have n4_ := Aside0.mk ((by rw [hg]; exact (below_size (by repeat (first | (with_reducible first | exact HB.out | apply below_alloc | apply pw_below_drewN | apply below_drew1) | exact HB.out))) : w.heap.size ≤ gb345)); clear HO_6; clear HB; have HO_6 := n0_; have HB := n1_; have BK345 := n2_; have GW345 := n3_; have GE345 := n4_; clear n0_ n1_ n2_ n3_ n4_; clear hb hbox hg; have hcz15_0 : w14.cell? ⟨gb345, 0, none⟩ = some (.int .i64 0) := (blk_cell BK345.out 0).trans rfl; have hcz15_1 : w14.cell? ⟨gb345, 1, none⟩ = some (.int .i64 0) := (blk_cell BK345.out 1).trans rfl; have hcz15_2 : w14.cell? ⟨gb345, 2, none⟩ = some (.int .i64 0) := (blk_cell BK345.out 2).trans rfl; have hcz15_3 : w14.cell? ⟨gb345, 3, none⟩ = some (.int .i64 0) := (blk_cell BK345.out 3).trans rfl; have hfz15_0 := blk_frozen BK345.out 0; have hfz15_1 := blk_frozen BK345.out 1; have hfz15_2 := blk_frozen BK345.out 2; have hfz15_3 := blk_frozen BK345.out 3))
                (try simp only [Act.put, List.setIfInBounds_toArray, List.set_cons_zero, List.set_cons_succ])
                go_cut [42] (fun v42 wc => ∃ (kq : Nat) (x42_12 : Bool), v42 = .bool x42_12 ∧ Aside0 (vinculumref10_Split.j2 kq l0 a1 x6_2 x7_2 x42_12 ((rd_T42 l0 x7_2).f0) ((rd_T42 l0 x7_2).f1) ((rd_T42 l0 x7_2).f2) ((rd_T42 l0 x7_2).f3) = some (r1, r2)) ∧ Aside0 (kq ≤ k2) ∧ Aside0 (Kd.R k42 42 wc w.heap.size (fun k_ => k_ ≠ gb345) u6 x6_2) ∧ Aside0 (wc.heap[gb345]? = some (.cells #[.int .i64 ((rd_T42 l0 x7_2).f0), .int .i64 ((rd_T42 l0 x7_2).f1), .int .i64 ((rd_T42 l0 x7_2).f2), .int .i64 ((rd_T42 l0 x7_2).f3)] 42 (0, 0))) ∧ Aside0 (Below w.heap.size w wc))
                case first =>
                  have H := HC13.out
                  clear HC13
                  by_cases c16 : ((rd_T42 l0 x7_2).f3) = a1
                  · rw [if_pos c16] at H
                    have c16b0 : (((rd_T42 l0 x7_2).f3) == a1) = true := beq_iff_eq.mpr c16
                    have c16b1 : (((rd_T42 l0 x7_2).f3) != a1) = false := bne_eq_false_iff_eq.mpr c16
                    clear c16
                    (first | rw [c16b0] | (simp only [i64_w, i32_w]; rw [c16b0]) | skip)
                    have H' := Aside0.mk H
                    clear H
                    have hcz17_0 : w14.cell? ⟨gb345, 0, none⟩ = some (.int .i64 0) := (blk_cell BK345.out 0).trans rfl
                    have hcz17_1 : w14.cell? ⟨gb345, 1, none⟩ = some (.int .i64 0) := (blk_cell BK345.out 1).trans rfl
                    have hcz17_2 : w14.cell? ⟨gb345, 2, none⟩ = some (.int .i64 0) := (blk_cell BK345.out 2).trans rfl
                    have hcz17_3 : w14.cell? ⟨gb345, 3, none⟩ = some (.int .i64 0) := (blk_cell BK345.out 3).trans rfl
                    have hfz17_0 := blk_frozen BK345.out 0
                    have hfz17_1 := blk_frozen BK345.out 1
                    have hfz17_2 := blk_frozen BK345.out 2
                    have hfz17_3 := blk_frozen BK345.out 3
                    go_wp2
                    go_meet
                    case rel => exact ⟨_, (true), (by first | rfl | (simp; done) | (simp [*]; done)), H', ⟨by have := HJ2.out; have := HK2.out; first | omega | exact Nat.le_refl _⟩, ⟨by (with_reducible repeat (first | apply Kd.R_alloc | apply Kd.R_drewN | apply Kd.R_drew)); exact Kd.R_mono (Kd.R_far (p := ⟨gb345, 3, none⟩) (Kd.R_far (p := ⟨gb345, 2, none⟩) (Kd.R_far (p := ⟨gb345, 1, none⟩) (Kd.R_far (p := ⟨gb345, 0, none⟩) (Kd.R_mono HO_6.out (fun k_ hk => (⟨hk, hk.2⟩ : _ ∧ k_ ≠ gb345))) (fun _ hk => hk.2) (.int .i64 ((rd_T42 l0 x7_2).f0))) (fun _ hk => hk.2) (.int .i64 ((rd_T42 l0 x7_2).f1))) (fun _ hk => hk.2) (.int .i64 ((rd_T42 l0 x7_2).f2))) (fun _ hk => hk.2) (.int .i64 ((rd_T42 l0 x7_2).f3))) (fun _ hk => hk.1.2)⟩, ⟨by (with_reducible repeat (first | refine blk_drewN ?_ _ | refine blk_drew ?_ | refine blk_alloc ?_ _)); refine blk_put (cs := #[.int .i64 ((rd_T42 l0 x7_2).f0), .int .i64 ((rd_T42 l0 x7_2).f1), .int .i64 ((rd_T42 l0 x7_2).f2), .int .i64 0]) ?_ 3 _ rfl; (with_reducible repeat (first | refine blk_drewN ?_ _ | refine blk_drew ?_ | refine blk_alloc ?_ _)); refine blk_put (cs := #[.int .i64 ((rd_T42 l0 x7_2).f0), .int .i64 ((rd_T42 l0 x7_2).f1), .int .i64 0, .int .i64 0]) ?_ 2 _ rfl; (with_reducible repeat (first | refine blk_drewN ?_ _ | refine blk_drew ?_ | refine blk_alloc ?_ _)); refine blk_put (cs := #[.int .i64 ((rd_T42 l0 x7_2).f0), .int .i64 0, .int .i64 0, .int .i64 0]) ?_ 1 _ rfl; (with_reducible repeat (first | refine blk_drewN ?_ _ | refine blk_drew ?_ | refine blk_alloc ?_ _)); refine blk_put (cs := #[.int .i64 0, .int .i64 0, .int .i64 0, .int .i64 0]) ?_ 0 _ rfl; (with_reducible repeat (first | refine blk_drewN ?_ _ | refine blk_drew ?_ | refine blk_alloc ?_ _)); exact BK345.out⟩, ⟨by repeat (first | (with_reducible first | exact HB.out | apply below_alloc | apply pw_below_drewN | apply below_drew1 | refine below_set ?_ GE345.out) | exact HB.out)⟩⟩
                  · rw [if_neg c16] at H
                    have c16b0 : (((rd_T42 l0 x7_2).f3) == a1) = false := beq_eq_false_iff_ne.mpr c16
                    have c16b1 : (((rd_T42 l0 x7_2).f3) != a1) = true := bne_iff_ne.mpr c16
                    (first | rw [c16b0] | (simp only [i64_w, i32_w]; rw [c16b0]) | skip)
                    have H' := Aside0.mk H
                    clear H
                    have hcz18_0 : w14.cell? ⟨gb345, 0, none⟩ = some (.int .i64 0) := (blk_cell BK345.out 0).trans rfl
                    have hcz18_1 : w14.cell? ⟨gb345, 1, none⟩ = some (.int .i64 0) := (blk_cell BK345.out 1).trans rfl
                    have hcz18_2 : w14.cell? ⟨gb345, 2, none⟩ = some (.int .i64 0) := (blk_cell BK345.out 2).trans rfl
                    have hcz18_3 : w14.cell? ⟨gb345, 3, none⟩ = some (.int .i64 0) := (blk_cell BK345.out 3).trans rfl
                    have hfz18_0 := blk_frozen BK345.out 0
                    have hfz18_1 := blk_frozen BK345.out 1
                    have hfz18_2 := blk_frozen BK345.out 2
                    have hfz18_3 := blk_frozen BK345.out 3
                    go_wp2
                    go_meet
                    case rel => exact ⟨_, ((((rd_T42 l0 x7_2).f0) == ((rd_T42 l0 x7_2).f1))), (by first | rfl | (simp; done) | (simp [*]; done)), H', ⟨by have := HJ2.out; have := HK2.out; first | omega | exact Nat.le_refl _⟩, ⟨by (with_reducible repeat (first | apply Kd.R_alloc | apply Kd.R_drewN | apply Kd.R_drew)); exact Kd.R_mono (Kd.R_far (p := ⟨gb345, 3, none⟩) (Kd.R_far (p := ⟨gb345, 2, none⟩) (Kd.R_far (p := ⟨gb345, 1, none⟩) (Kd.R_far (p := ⟨gb345, 0, none⟩) (Kd.R_mono HO_6.out (fun k_ hk => (⟨hk, hk.2⟩ : _ ∧ k_ ≠ gb345))) (fun _ hk => hk.2) (.int .i64 ((rd_T42 l0 x7_2).f0))) (fun _ hk => hk.2) (.int .i64 ((rd_T42 l0 x7_2).f1))) (fun _ hk => hk.2) (.int .i64 ((rd_T42 l0 x7_2).f2))) (fun _ hk => hk.2) (.int .i64 ((rd_T42 l0 x7_2).f3))) (fun _ hk => hk.1.2)⟩, ⟨by (with_reducible repeat (first | refine blk_drewN ?_ _ | refine blk_drew ?_ | refine blk_alloc ?_ _)); refine blk_put (cs := #[.int .i64 ((rd_T42 l0 x7_2).f0), .int .i64 ((rd_T42 l0 x7_2).f1), .int .i64 ((rd_T42 l0 x7_2).f2), .int .i64 0]) ?_ 3 _ rfl; (with_reducible repeat (first | refine blk_drewN ?_ _ | refine blk_drew ?_ | refine blk_alloc ?_ _)); refine blk_put (cs := #[.int .i64 ((rd_T42 l0 x7_2).f0), .int .i64 ((rd_T42 l0 x7_2).f1), .int .i64 0, .int .i64 0]) ?_ 2 _ rfl; (with_reducible repeat (first | refine blk_drewN ?_ _ | refine blk_drew ?_ | refine blk_alloc ?_ _)); refine blk_put (cs := #[.int .i64 ((rd_T42 l0 x7_2).f0), .int .i64 0, .int .i64 0, .int .i64 0]) ?_ 1 _ rfl; (with_reducible repeat (first | refine blk_drewN ?_ _ | refine blk_drew ?_ | refine blk_alloc ?_ _)); refine blk_put (cs := #[.int .i64 0, .int .i64 0, .int .i64 0, .int .i64 0]) ?_ 0 _ rfl; (with_reducible repeat (first | refine blk_drewN ?_ _ | refine blk_drew ?_ | refine blk_alloc ?_ _)); exact BK345.out⟩, ⟨by repeat (first | (with_reducible first | exact HB.out | apply below_alloc | apply pw_below_drewN | apply below_drew1 | refine below_set ?_ GE345.out) | exact HB.out)⟩⟩
                case rest =>
                  clear HC13
                  try clear c1
                  try clear p2
                  try clear c3
                  try clear p3
                  try clear q3
                  try clear hx3
                  try clear c4
                  try clear c5
                  try clear c6
                  try clear c6b0
                  try clear c10
                  try clear c11
                  try clear c11b0
                  try clear c12
                  try clear c12b0
                  try clear c16
                  try clear c16b0
                  try clear c16b1
                  try clear hcz15_0
                  try clear hcz15_1
                  try clear hcz15_2
                  try clear hcz15_3
                  try clear hcz17_0
                  try clear hcz17_1
                  try clear hcz17_2
                  try clear hcz17_3
                  try clear hcz18_0
                  try clear hcz18_1
                  try clear hcz18_2
                  try clear hcz18_3
                  try clear hfz15_0
                  try clear hfz15_1
                  try clear hfz15_2
                  try clear hfz15_3
                  try clear hfz17_0
                  try clear hfz17_1
                  try clear hfz17_2
                  try clear hfz17_3
                  try clear hfz18_0
                  try clear hfz18_1
                  try clear hfz18_2
                  try clear hfz18_3
                  try clear hx344_0
                  try clear hx344_1
                  try clear hx344_2
                  try clear hx344_3
                  try clear p2
                  try clear p344
                  try clear q344
                  obtain ⟨kq, x42_12, rfl, HA, HJ12, HO_6, BK345, HB⟩ := hcut
                  cases kq with
                  | zero => exact absurd HA.out (by simp [vinculumref10_Split.j2])
                  | succ kj12 =>
                    have H := HA.out
                    clear HA
                    simp only [vinculumref10_Split.j2] at H
                    by_cases c19 : x42_12 = true
                    · subst c19
                      have H1 : (if ((rd_T42 l0 x7_2).f2) > 0 then (if x6_2.length < 4398046511104 then (vinculumref10_Split.l0 kj12 l0 a1 (x6_2 ++ [(⟨((rd_T42 l0 x7_2).f0), ((rd_T42 l0 x7_2).f1), ((rd_T42 l0 x7_2).f2), a1⟩ : S42)]) (wrap64 (x7_2 + 1))) else (none)) else (if ((rd_T42 l0 x7_2).f3) = 1 then (if ((rd_T42 l0 x7_2).f1) > ((rd_T42 l0 x7_2).f0) then (if x6_2.length < 4398046511104 then (vinculumref10_Split.l0 kj12 l0 a1 (x6_2 ++ [(⟨((rd_T42 l0 x7_2).f0), ((rd_T42 l0 x7_2).f1), ((rd_T42 l0 x7_2).f2), a1⟩ : S42)]) (wrap64 (x7_2 + 1))) else (none)) else (vinculumref10_Split.l0 kj12 l0 a1 x6_2 (wrap64 (x7_2 + 1)))) else (vinculumref10_Split.l0 kj12 l0 a1 x6_2 (wrap64 (x7_2 + 1))))) = some (r1, r2) := by rw [if_pos rfl] at H; exact H
                      clear H
                      have H := H1
                      clear H1
                      by_cases c20 : ((rd_T42 l0 x7_2).f2) > 0
                      · rw [if_pos c20] at H
                        have c20b0 : decide (0 < ((rd_T42 l0 x7_2).f2)) = true := decide_eq_true c20
                        clear c20
                        by_cases c21 : x6_2.length < 4398046511104
                        · rw [if_pos c21] at H
                          have LMc21 := Aside0.mk c21
                          clear c21
                          obtain ⟨y346, hy346⟩ : ∃ y_ : List (S42), y_ = (x6_2 ++ [(⟨((rd_T42 l0 x7_2).f0), ((rd_T42 l0 x7_2).f1), ((rd_T42 l0 x7_2).f2), a1⟩ : S42)]) := ⟨_, rfl⟩
                          replace H : (vinculumref10_Split.l0 kj12 l0 a1 y346 (wrap64 (x7_2 + 1))) = some (r1, r2) := by first | (rw [hy346]; with_reducible exact H) | (have H2_ := (Option.bind_some _ _).symm.trans H; rw [hy346]; with_reducible exact H2_) | (have H2_ := (Option.bind_some _ _).symm.trans H; with_reducible exact H2_) | with_reducible exact H | (rw [hy346]; exact H) | exact H
                          have Ny346 := Aside0.mk hy346
                          clear hy346
                          have H' := Aside0.mk H
                          clear H
                          have hcz22_0 : wc.cell? ⟨gb345, 0, none⟩ = some (.int .i64 ((rd_T42 l0 x7_2).f0)) := (blk_cell BK345.out 0).trans rfl
                          have hcz22_1 : wc.cell? ⟨gb345, 1, none⟩ = some (.int .i64 ((rd_T42 l0 x7_2).f1)) := (blk_cell BK345.out 1).trans rfl
                          have hcz22_2 : wc.cell? ⟨gb345, 2, none⟩ = some (.int .i64 ((rd_T42 l0 x7_2).f2)) := (blk_cell BK345.out 2).trans rfl
                          have hcz22_3 : wc.cell? ⟨gb345, 3, none⟩ = some (.int .i64 ((rd_T42 l0 x7_2).f3)) := (blk_cell BK345.out 3).trans rfl
                          have hfz22_0 := blk_frozen BK345.out 0
                          have hfz22_1 := blk_frozen BK345.out 1
                          have hfz22_2 := blk_frozen BK345.out 2
                          have hfz22_3 := blk_frozen BK345.out 3
                          go_wp2_with (first | ((with_reducible refine gate_builtin (b := .append) (xs := #[.tmp 60, .tmp 62]) rfl ?_); at_builtin; refine Kd.R_append k42 (w0 := w) w.heap.size rfl (.tmp 60) (.tmp 62) 22 42 (.agg #[(.int .i64 0), (.int .i64 0), (.int .i64 0), (.int .i64 0)]) 32 rfl Try.underlying22 info42 rfl (by decide) (by omega) u6 x6_2 (⟨((rd_T42 l0 x7_2).f0), ((rd_T42 l0 x7_2).f1), ((rd_T42 l0 x7_2).f2), a1⟩ : S42) [.int .i64 ((rd_T42 l0 x7_2).f0), .int .i64 ((rd_T42 l0 x7_2).f1), .int .i64 ((rd_T42 l0 x7_2).f2), .int .i64 a1] (fun k_ => k_ ≠ gb345) (fun _ => False) rfl (by first | (go_simp; done) | (go_simp; rfl)) ?aP (fun _ hk => hk.elim) ?aF ?aO ?aB ?aS ?aL ?_; (case aP => exact k42_mkM _ _ _ (⟨((rd_T42 l0 x7_2).f0), ((rd_T42 l0 x7_2).f1), ((rd_T42 l0 x7_2).f2), a1⟩ : S42)); (case aB => exact (by repeat (first | (with_reducible first | exact HB.out | apply below_alloc | apply pw_below_drewN | apply below_drew1 | refine below_set ?_ GE345.out) | exact HB.out))); (case aF => exact (fun k_ hk => Kd.freshB (g := gb345) (o := .cells #[.int .i64 ((rd_T42 l0 x7_2).f0), .int .i64 ((rd_T42 l0 x7_2).f1), .int .i64 ((rd_T42 l0 x7_2).f2), .int .i64 a1] 42 (0, 0)) (by (with_reducible repeat (first | refine blk_drewN ?_ _ | refine blk_drew ?_ | refine blk_alloc ?_ _)); refine blk_put (cs := #[.int .i64 ((rd_T42 l0 x7_2).f0), .int .i64 ((rd_T42 l0 x7_2).f1), .int .i64 ((rd_T42 l0 x7_2).f2), .int .i64 ((rd_T42 l0 x7_2).f3)]) ?_ 3 _ rfl; (with_reducible repeat (first | refine blk_drewN ?_ _ | refine blk_drew ?_ | refine blk_alloc ?_ _)); exact BK345.out) k_ hk)); (case aO => exact (by (with_reducible repeat (first | apply Kd.R_alloc | apply Kd.R_drewN | apply Kd.R_drew)); exact Kd.R_mono (Kd.R_far (p := ⟨gb345, 3, none⟩) (Kd.R_mono HO_6.out (fun k_ hk => (⟨hk, hk⟩ : _ ∧ k_ ≠ gb345))) (fun _ hk => hk.2) (.int .i64 a1)) (fun _ hk => hk.1))); (case aS => exact (below_size (by repeat (first | (with_reducible first | exact HB.out | apply below_alloc | apply pw_below_drewN | apply below_drew1 | refine below_set ?_ GE345.out) | exact HB.out)))); (case aL => have := LMc21.out; omega); intro v347 w23 ho hb hg hat; rw [← Ny346.out] at ho; have n0_ := Aside0.mk (blk_grown (g := gb345) (o := .cells #[.int .i64 ((rd_T42 l0 x7_2).f0), .int .i64 ((rd_T42 l0 x7_2).f1), .int .i64 ((rd_T42 l0 x7_2).f2), .int .i64 a1] 42 (0, 0)) (by (with_reducible repeat (first | refine blk_drewN ?_ _ | refine blk_drew ?_ | refine blk_alloc ?_ _)); refine blk_put (cs := #[.int .i64 ((rd_T42 l0 x7_2).f0), .int .i64 ((rd_T42 l0 x7_2).f1), .int .i64 ((rd_T42 l0 x7_2).f2), .int .i64 ((rd_T42 l0 x7_2).f3)]) ?_ 3 _ rfl; (with_reducible repeat (first | refine blk_drewN ?_ _ | refine blk_drew ?_ | refine blk_alloc ?_ _)); exact BK345.out) hg (Kd.R_away HO_6.out (fun _ hk => hk))); have n1_ := Aside0.mk (hb); have n2_ := Aside0.mk (ho); clear BK345; clear HB; clear HO_6; have BK345 := n0_; have HB := n1_; have HO348 := n2_; clear n0_ n1_ n2_; clear ho hb hg hat))
                          go_roundg kj12
                          case measure => have := HJ2.out; have := HK2.out; have := HJ12.out; omega
                          case rel => exact ⟨(y346), (wrap64 (x7_2 + 1)), (by first | rfl | (simp; done) | (simp [*]; done)), H', ⟨by have := HJ2.out; have := HK2.out; have := HJ12.out; omega⟩, ⟨by (with_reducible repeat (first | apply Kd.R_alloc | apply Kd.R_drewN | apply Kd.R_drew)); exact Kd.R_mono HO348.out (fun _ hk => trivial)⟩, ⟨by repeat (first | (with_reducible first | exact HB.out | apply below_alloc | apply pw_below_drewN | apply below_drew1 | refine below_set ?_ GE345.out) | exact HB.out)⟩⟩
                        · rw [if_neg c21] at H
                          exact absurd H (by simp)
                      · rw [if_neg c20] at H
                        have c20b0 : decide (0 < ((rd_T42 l0 x7_2).f2)) = false := decide_eq_false c20
                        clear c20
                        by_cases c24 : ((rd_T42 l0 x7_2).f3) = 1
                        · rw [if_pos c24] at H
                          have c24b0 : (((rd_T42 l0 x7_2).f3) == 1) = true := beq_iff_eq.mpr c24
                          have c24b1 : (((rd_T42 l0 x7_2).f3) != 1) = false := bne_eq_false_iff_eq.mpr c24
                          clear c24
                          by_cases c25 : ((rd_T42 l0 x7_2).f1) > ((rd_T42 l0 x7_2).f0)
                          · rw [if_pos c25] at H
                            have c25b0 : decide (((rd_T42 l0 x7_2).f0) < ((rd_T42 l0 x7_2).f1)) = true := decide_eq_true c25
                            clear c25
                            by_cases c26 : x6_2.length < 4398046511104
                            · rw [if_pos c26] at H
                              have LMc26 := Aside0.mk c26
                              clear c26
                              obtain ⟨y349, hy349⟩ : ∃ y_ : List (S42), y_ = (x6_2 ++ [(⟨((rd_T42 l0 x7_2).f0), ((rd_T42 l0 x7_2).f1), ((rd_T42 l0 x7_2).f2), a1⟩ : S42)]) := ⟨_, rfl⟩
                              replace H : (vinculumref10_Split.l0 kj12 l0 a1 y349 (wrap64 (x7_2 + 1))) = some (r1, r2) := by first | (rw [hy349]; with_reducible exact H) | (have H2_ := (Option.bind_some _ _).symm.trans H; rw [hy349]; with_reducible exact H2_) | (have H2_ := (Option.bind_some _ _).symm.trans H; with_reducible exact H2_) | with_reducible exact H | (rw [hy349]; exact H) | exact H
                              have Ny349 := Aside0.mk hy349
                              clear hy349
                              have H' := Aside0.mk H
                              clear H
                              have hcz27_0 : wc.cell? ⟨gb345, 0, none⟩ = some (.int .i64 ((rd_T42 l0 x7_2).f0)) := (blk_cell BK345.out 0).trans rfl
                              have hcz27_1 : wc.cell? ⟨gb345, 1, none⟩ = some (.int .i64 ((rd_T42 l0 x7_2).f1)) := (blk_cell BK345.out 1).trans rfl
                              have hcz27_2 : wc.cell? ⟨gb345, 2, none⟩ = some (.int .i64 ((rd_T42 l0 x7_2).f2)) := (blk_cell BK345.out 2).trans rfl
                              have hcz27_3 : wc.cell? ⟨gb345, 3, none⟩ = some (.int .i64 ((rd_T42 l0 x7_2).f3)) := (blk_cell BK345.out 3).trans rfl
                              have hfz27_0 := blk_frozen BK345.out 0
                              have hfz27_1 := blk_frozen BK345.out 1
                              have hfz27_2 := blk_frozen BK345.out 2
                              have hfz27_3 := blk_frozen BK345.out 3
                              go_wp2_with (first | ((with_reducible refine gate_builtin (b := .append) (xs := #[.tmp 60, .tmp 62]) rfl ?_); at_builtin; refine Kd.R_append k42 (w0 := w) w.heap.size rfl (.tmp 60) (.tmp 62) 22 42 (.agg #[(.int .i64 0), (.int .i64 0), (.int .i64 0), (.int .i64 0)]) 32 rfl Try.underlying22 info42 rfl (by decide) (by omega) u6 x6_2 (⟨((rd_T42 l0 x7_2).f0), ((rd_T42 l0 x7_2).f1), ((rd_T42 l0 x7_2).f2), a1⟩ : S42) [.int .i64 ((rd_T42 l0 x7_2).f0), .int .i64 ((rd_T42 l0 x7_2).f1), .int .i64 ((rd_T42 l0 x7_2).f2), .int .i64 a1] (fun k_ => k_ ≠ gb345) (fun _ => False) rfl (by first | (go_simp; done) | (go_simp; rfl)) ?aP (fun _ hk => hk.elim) ?aF ?aO ?aB ?aS ?aL ?_; (case aP => exact k42_mkM _ _ _ (⟨((rd_T42 l0 x7_2).f0), ((rd_T42 l0 x7_2).f1), ((rd_T42 l0 x7_2).f2), a1⟩ : S42)); (case aB => exact (by repeat (first | (with_reducible first | exact HB.out | apply below_alloc | apply pw_below_drewN | apply below_drew1 | refine below_set ?_ GE345.out) | exact HB.out))); (case aF => exact (fun k_ hk => Kd.freshB (g := gb345) (o := .cells #[.int .i64 ((rd_T42 l0 x7_2).f0), .int .i64 ((rd_T42 l0 x7_2).f1), .int .i64 ((rd_T42 l0 x7_2).f2), .int .i64 a1] 42 (0, 0)) (by (with_reducible repeat (first | refine blk_drewN ?_ _ | refine blk_drew ?_ | refine blk_alloc ?_ _)); refine blk_put (cs := #[.int .i64 ((rd_T42 l0 x7_2).f0), .int .i64 ((rd_T42 l0 x7_2).f1), .int .i64 ((rd_T42 l0 x7_2).f2), .int .i64 ((rd_T42 l0 x7_2).f3)]) ?_ 3 _ rfl; (with_reducible repeat (first | refine blk_drewN ?_ _ | refine blk_drew ?_ | refine blk_alloc ?_ _)); exact BK345.out) k_ hk)); (case aO => exact (by (with_reducible repeat (first | apply Kd.R_alloc | apply Kd.R_drewN | apply Kd.R_drew)); exact Kd.R_mono (Kd.R_far (p := ⟨gb345, 3, none⟩) (Kd.R_mono HO_6.out (fun k_ hk => (⟨hk, hk⟩ : _ ∧ k_ ≠ gb345))) (fun _ hk => hk.2) (.int .i64 a1)) (fun _ hk => hk.1))); (case aS => exact (below_size (by repeat (first | (with_reducible first | exact HB.out | apply below_alloc | apply pw_below_drewN | apply below_drew1 | refine below_set ?_ GE345.out) | exact HB.out)))); (case aL => have := LMc26.out; omega); intro v350 w28 ho hb hg hat; rw [← Ny349.out] at ho; have n0_ := Aside0.mk (blk_grown (g := gb345) (o := .cells #[.int .i64 ((rd_T42 l0 x7_2).f0), .int .i64 ((rd_T42 l0 x7_2).f1), .int .i64 ((rd_T42 l0 x7_2).f2), .int .i64 a1] 42 (0, 0)) (by (with_reducible repeat (first | refine blk_drewN ?_ _ | refine blk_drew ?_ | refine blk_alloc ?_ _)); refine blk_put (cs := #[.int .i64 ((rd_T42 l0 x7_2).f0), .int .i64 ((rd_T42 l0 x7_2).f1), .int .i64 ((rd_T42 l0 x7_2).f2), .int .i64 ((rd_T42 l0 x7_2).f3)]) ?_ 3 _ rfl; (with_reducible repeat (first | refine blk_drewN ?_ _ | refine blk_drew ?_ | refine blk_alloc ?_ _)); exact BK345.out) hg (Kd.R_away HO_6.out (fun _ hk => hk))); have n1_ := Aside0.mk (hb); have n2_ := Aside0.mk (ho); clear BK345; clear HB; clear HO_6; have BK345 := n0_; have HB := n1_; have HO351 := n2_; clear n0_ n1_ n2_; clear ho hb hg hat))
                              go_roundg kj12
                              case measure => have := HJ2.out; have := HK2.out; have := HJ12.out; omega
                              case rel => exact ⟨(y349), (wrap64 (x7_2 + 1)), (by first | rfl | (simp; done) | (simp [*]; done)), H', ⟨by have := HJ2.out; have := HK2.out; have := HJ12.out; omega⟩, ⟨by (with_reducible repeat (first | apply Kd.R_alloc | apply Kd.R_drewN | apply Kd.R_drew)); exact Kd.R_mono HO351.out (fun _ hk => trivial)⟩, ⟨by repeat (first | (with_reducible first | exact HB.out | apply below_alloc | apply pw_below_drewN | apply below_drew1 | refine below_set ?_ GE345.out) | exact HB.out)⟩⟩
                            · rw [if_neg c26] at H
                              exact absurd H (by simp)
                          · rw [if_neg c25] at H
                            have c25b0 : decide (((rd_T42 l0 x7_2).f0) < ((rd_T42 l0 x7_2).f1)) = false := decide_eq_false c25
                            clear c25
                            have H' := Aside0.mk H
                            clear H
                            have hcz29_0 : wc.cell? ⟨gb345, 0, none⟩ = some (.int .i64 ((rd_T42 l0 x7_2).f0)) := (blk_cell BK345.out 0).trans rfl
                            have hcz29_1 : wc.cell? ⟨gb345, 1, none⟩ = some (.int .i64 ((rd_T42 l0 x7_2).f1)) := (blk_cell BK345.out 1).trans rfl
                            have hcz29_2 : wc.cell? ⟨gb345, 2, none⟩ = some (.int .i64 ((rd_T42 l0 x7_2).f2)) := (blk_cell BK345.out 2).trans rfl
                            have hcz29_3 : wc.cell? ⟨gb345, 3, none⟩ = some (.int .i64 ((rd_T42 l0 x7_2).f3)) := (blk_cell BK345.out 3).trans rfl
                            have hfz29_0 := blk_frozen BK345.out 0
                            have hfz29_1 := blk_frozen BK345.out 1
                            have hfz29_2 := blk_frozen BK345.out 2
                            have hfz29_3 := blk_frozen BK345.out 3
                            go_wp2
                            go_roundg kj12
                            case measure => have := HJ2.out; have := HK2.out; have := HJ12.out; omega
                            case rel => exact ⟨(x6_2), (wrap64 (x7_2 + 1)), (by first | rfl | (simp; done) | (simp [*]; done)), H', ⟨by have := HJ2.out; have := HK2.out; have := HJ12.out; omega⟩, ⟨by (with_reducible repeat (first | apply Kd.R_alloc | apply Kd.R_drewN | apply Kd.R_drew)); exact Kd.R_mono HO_6.out (fun _ hk => trivial)⟩, ⟨by repeat (first | (with_reducible first | exact HB.out | apply below_alloc | apply pw_below_drewN | apply below_drew1 | refine below_set ?_ GE345.out) | exact HB.out)⟩⟩
                        · rw [if_neg c24] at H
                          have c24b0 : (((rd_T42 l0 x7_2).f3) == 1) = false := beq_eq_false_iff_ne.mpr c24
                          have c24b1 : (((rd_T42 l0 x7_2).f3) != 1) = true := bne_iff_ne.mpr c24
                          have H' := Aside0.mk H
                          clear H
                          have hcz30_0 : wc.cell? ⟨gb345, 0, none⟩ = some (.int .i64 ((rd_T42 l0 x7_2).f0)) := (blk_cell BK345.out 0).trans rfl
                          have hcz30_1 : wc.cell? ⟨gb345, 1, none⟩ = some (.int .i64 ((rd_T42 l0 x7_2).f1)) := (blk_cell BK345.out 1).trans rfl
                          have hcz30_2 : wc.cell? ⟨gb345, 2, none⟩ = some (.int .i64 ((rd_T42 l0 x7_2).f2)) := (blk_cell BK345.out 2).trans rfl
                          have hcz30_3 : wc.cell? ⟨gb345, 3, none⟩ = some (.int .i64 ((rd_T42 l0 x7_2).f3)) := (blk_cell BK345.out 3).trans rfl
                          have hfz30_0 := blk_frozen BK345.out 0
                          have hfz30_1 := blk_frozen BK345.out 1
                          have hfz30_2 := blk_frozen BK345.out 2
                          have hfz30_3 := blk_frozen BK345.out 3
                          go_wp2
                          go_roundg kj12
                          case measure => have := HJ2.out; have := HK2.out; have := HJ12.out; omega
                          case rel => exact ⟨(x6_2), (wrap64 (x7_2 + 1)), (by first | rfl | (simp; done) | (simp [*]; done)), H', ⟨by have := HJ2.out; have := HK2.out; have := HJ12.out; omega⟩, ⟨by (with_reducible repeat (first | apply Kd.R_alloc | apply Kd.R_drewN | apply Kd.R_drew)); exact Kd.R_mono HO_6.out (fun _ hk => trivial)⟩, ⟨by repeat (first | (with_reducible first | exact HB.out | apply below_alloc | apply pw_below_drewN | apply below_drew1 | refine below_set ?_ GE345.out) | exact HB.out)⟩⟩
                    · replace c19 := Bool.eq_false_iff.mpr c19
                      subst c19
                      have H1 : (vinculumref10_Split.l1 kj12 l0 a1 x6_2 x7_2 ((rd_T42 l0 x7_2).f0) ((rd_T42 l0 x7_2).f0) ((rd_T42 l0 x7_2).f1) ((rd_T42 l0 x7_2).f2) ((rd_T42 l0 x7_2).f3)) = some (r1, r2) := by rw [if_neg (show ¬ (false = true) by decide)] at H; exact H
                      clear H
                      have H := H1
                      clear H1
                      have H' := Aside0.mk H
                      clear H
                      have hcz31_0 : wc.cell? ⟨gb345, 0, none⟩ = some (.int .i64 ((rd_T42 l0 x7_2).f0)) := (blk_cell BK345.out 0).trans rfl
                      have hcz31_1 : wc.cell? ⟨gb345, 1, none⟩ = some (.int .i64 ((rd_T42 l0 x7_2).f1)) := (blk_cell BK345.out 1).trans rfl
                      have hcz31_2 : wc.cell? ⟨gb345, 2, none⟩ = some (.int .i64 ((rd_T42 l0 x7_2).f2)) := (blk_cell BK345.out 2).trans rfl
                      have hcz31_3 : wc.cell? ⟨gb345, 3, none⟩ = some (.int .i64 ((rd_T42 l0 x7_2).f3)) := (blk_cell BK345.out 3).trans rfl
                      have hfz31_0 := blk_frozen BK345.out 0
                      have hfz31_1 := blk_frozen BK345.out 1
                      have hfz31_2 := blk_frozen BK345.out 2
                      have hfz31_3 := blk_frozen BK345.out 3
                      go_wp2
                      go_loopg [6, 9] kj12 (fun kq v6 v9 w' => ∃ (x6_4 : List (S42)) (x9_4 : Int), v9 = .int .i64 x9_4 ∧ Aside0 (vinculumref10_Split.l1 kq l0 a1 x6_4 x7_2 x9_4 ((rd_T42 l0 x7_2).f0) ((rd_T42 l0 x7_2).f1) ((rd_T42 l0 x7_2).f2) ((rd_T42 l0 x7_2).f3) = some (r1, r2)) ∧ Aside0 (kq ≤ kj12) ∧ Aside0 (Kd.R k42 42 w' w.heap.size (fun k_ => k_ ≠ gb345) v6 x6_4) ∧ Aside0 (w'.heap[gb345]? = some (.cells #[.int .i64 ((rd_T42 l0 x7_2).f0), .int .i64 ((rd_T42 l0 x7_2).f1), .int .i64 ((rd_T42 l0 x7_2).f2), .int .i64 ((rd_T42 l0 x7_2).f3)] 42 (0, 0))) ∧ Aside0 (Below w.heap.size w w'))
                      case atStart => exact ⟨(x6_2), (((rd_T42 l0 x7_2).f0)), (by first | rfl | (simp; done) | (simp [*]; done)), H', ⟨Nat.le_refl _⟩, ⟨by (with_reducible repeat (first | apply Kd.R_alloc | apply Kd.R_drewN | apply Kd.R_drew)); exact HO_6.out⟩, ⟨by (with_reducible repeat (first | refine blk_drewN ?_ _ | refine blk_drew ?_ | refine blk_alloc ?_ _)); exact BK345.out⟩, ⟨by repeat (first | (with_reducible first | exact HB.out | apply below_alloc | apply pw_below_drewN | apply below_drew1 | refine below_set ?_ GE345.out) | exact HB.out)⟩⟩
                      case round =>
                        clear H'
                        try clear c1
                        try clear c2
                        try clear p2
                        try clear c3
                        try clear p3
                        try clear q3
                        try clear hx3
                        try clear c4
                        try clear c5
                        try clear c6
                        try clear c6b0
                        try clear p6
                        try clear c10
                        try clear c11
                        try clear c11b0
                        try clear c12
                        try clear c12b0
                        try clear c16
                        try clear c16b0
                        try clear c16b1
                        try clear c19
                        try clear c20
                        try clear c20b0
                        try clear c21
                        try clear c24
                        try clear c24b0
                        try clear c24b1
                        try clear c25
                        try clear c25b0
                        try clear c26
                        try clear c31
                        try clear hcz15_0
                        try clear hcz15_1
                        try clear hcz15_2
                        try clear hcz15_3
                        try clear hcz17_0
                        try clear hcz17_1
                        try clear hcz17_2
                        try clear hcz17_3
                        try clear hcz18_0
                        try clear hcz18_1
                        try clear hcz18_2
                        try clear hcz18_3
                        try clear hcz22_0
                        try clear hcz22_1
                        try clear hcz22_2
                        try clear hcz22_3
                        try clear hcz27_0
                        try clear hcz27_1
                        try clear hcz27_2
                        try clear hcz27_3
                        try clear hcz29_0
                        try clear hcz29_1
                        try clear hcz29_2
                        try clear hcz29_3
                        try clear hcz30_0
                        try clear hcz30_1
                        try clear hcz30_2
                        try clear hcz30_3
                        try clear hcz31_0
                        try clear hcz31_1
                        try clear hcz31_2
                        try clear hcz31_3
                        try clear hfz15_0
                        try clear hfz15_1
                        try clear hfz15_2
                        try clear hfz15_3
                        try clear hfz17_0
                        try clear hfz17_1
                        try clear hfz17_2
                        try clear hfz17_3
                        try clear hfz18_0
                        try clear hfz18_1
                        try clear hfz18_2
                        try clear hfz18_3
                        try clear hfz22_0
                        try clear hfz22_1
                        try clear hfz22_2
                        try clear hfz22_3
                        try clear hfz27_0
                        try clear hfz27_1
                        try clear hfz27_2
                        try clear hfz27_3
                        try clear hfz29_0
                        try clear hfz29_1
                        try clear hfz29_2
                        try clear hfz29_3
                        try clear hfz30_0
                        try clear hfz30_1
                        try clear hfz30_2
                        try clear hfz30_3
                        try clear hfz31_0
                        try clear hfz31_1
                        try clear hfz31_2
                        try clear hfz31_3
                        try clear hx344_0
                        try clear hx344_1
                        try clear hx344_2
                        try clear hx344_3
                        try clear p2
                        try clear p3
                        try clear p344
                        try clear q3
                        try clear q344
                        obtain ⟨x6_4, x9_4, rfl, HA, HK4, HO_6, BK345, HB⟩ := hrel
                        cases gk with
                        | zero => exact absurd HA.out (by simp [vinculumref10_Split.l1])
                        | succ k4 =>
                          have H := HA.out
                          clear HA
                          simp only [vinculumref10_Split.l1] at H
                          by_cases c32 : x9_4 ≤ ((rd_T42 l0 x7_2).f1)
                          · rw [if_pos c32] at H
                            have c32b0 : decide (x9_4 ≤ ((rd_T42 l0 x7_2).f1)) = true := decide_eq_true c32
                            clear c32
                            by_cases c33 : (wrap64 (((rd_T42 l0 x7_2).f2) + (wrap64 (((rd_T42 l0 x7_2).f3) * (wrap64 (x9_4 - ((rd_T42 l0 x7_2).f0))))))) > 0
                            · rw [if_pos c33] at H
                              have c33b0 : decide (0 < (wrap64 (((rd_T42 l0 x7_2).f2) + (wrap64 (((rd_T42 l0 x7_2).f3) * (wrap64 (x9_4 - ((rd_T42 l0 x7_2).f0)))))))) = true := decide_eq_true c33
                              clear c33
                              by_cases c34 : x6_4.length < 4398046511104
                              · rw [if_pos c34] at H
                                have LMc34 := Aside0.mk c34
                                clear c34
                                obtain ⟨y352, hy352⟩ : ∃ y_ : List (S42), y_ = (x6_4 ++ [(⟨x9_4, x9_4, wrap64 (((rd_T42 l0 x7_2).f2) + (wrap64 (((rd_T42 l0 x7_2).f3) * (wrap64 (x9_4 - ((rd_T42 l0 x7_2).f0)))))), a1⟩ : S42)]) := ⟨_, rfl⟩
                                replace H : (if (y352.length : Int) > 65536 then (some (([] : List (S42)), 7)) else (vinculumref10_Split.l1 k4 l0 a1 y352 x7_2 (wrap64 (x9_4 + 1)) ((rd_T42 l0 x7_2).f0) ((rd_T42 l0 x7_2).f1) ((rd_T42 l0 x7_2).f2) ((rd_T42 l0 x7_2).f3))) = some (r1, r2) := by first | (rw [hy352]; with_reducible exact H) | (have H2_ := (Option.bind_some _ _).symm.trans H; rw [hy352]; with_reducible exact H2_) | (have H2_ := (Option.bind_some _ _).symm.trans H; with_reducible exact H2_) | with_reducible exact H | (rw [hy352]; exact H) | exact H
                                have Ny352 := Aside0.mk hy352
                                clear hy352
                                by_cases c35 : (y352.length : Int) > 65536
                                · rw [if_pos c35] at H
                                  have c35b0 : decide (65536 < (y352.length : Int)) = true := decide_eq_true c35
                                  have c35b1 : decide (65536 < y352.length) = true := decide_eq_true (by omega)
                                  clear c35
                                  simp only [Option.some.injEq, Prod.mk.injEq] at H
                                  obtain ⟨rfl, rfl⟩ := H
                                  have hcz36_0 : wr.cell? ⟨gb345, 0, none⟩ = some (.int .i64 ((rd_T42 l0 x7_2).f0)) := (blk_cell BK345.out 0).trans rfl
                                  have hcz36_1 : wr.cell? ⟨gb345, 1, none⟩ = some (.int .i64 ((rd_T42 l0 x7_2).f1)) := (blk_cell BK345.out 1).trans rfl
                                  have hcz36_2 : wr.cell? ⟨gb345, 2, none⟩ = some (.int .i64 ((rd_T42 l0 x7_2).f2)) := (blk_cell BK345.out 2).trans rfl
                                  have hcz36_3 : wr.cell? ⟨gb345, 3, none⟩ = some (.int .i64 ((rd_T42 l0 x7_2).f3)) := (blk_cell BK345.out 3).trans rfl
                                  have hfz36_0 := blk_frozen BK345.out 0
                                  have hfz36_1 := blk_frozen BK345.out 1
                                  have hfz36_2 := blk_frozen BK345.out 2
                                  have hfz36_3 := blk_frozen BK345.out 3
                                  go_wp2_with (first | ((with_reducible refine gate_builtin (b := .append) (xs := #[.tmp 84, .tmp 90]) rfl ?_); at_builtin; refine Kd.R_append k42 (w0 := w) w.heap.size rfl (.tmp 84) (.tmp 90) 22 42 (.agg #[(.int .i64 0), (.int .i64 0), (.int .i64 0), (.int .i64 0)]) 32 rfl Try.underlying22 info42 rfl (by decide) (by omega) u6 x6_4 (⟨x9_4, x9_4, wrap64 (((rd_T42 l0 x7_2).f2) + (wrap64 (((rd_T42 l0 x7_2).f3) * (wrap64 (x9_4 - ((rd_T42 l0 x7_2).f0)))))), a1⟩ : S42) [.int .i64 x9_4, .int .i64 x9_4, .int .i64 (wrap64 (((rd_T42 l0 x7_2).f2) + (wrap64 (((rd_T42 l0 x7_2).f3) * (wrap64 (x9_4 - ((rd_T42 l0 x7_2).f0))))))), .int .i64 a1] (fun k_ => k_ ≠ gb345) (fun _ => False) rfl rfl ?aP (fun _ hk => hk.elim) ?aF ?aO ?aB ?aS ?aL ?_; (case aP => exact k42_mkM _ _ _ (⟨x9_4, x9_4, wrap64 (((rd_T42 l0 x7_2).f2) + (wrap64 (((rd_T42 l0 x7_2).f3) * (wrap64 (x9_4 - ((rd_T42 l0 x7_2).f0)))))), a1⟩ : S42)); (case aB => exact (by repeat (first | (with_reducible first | exact HB.out | apply below_alloc | apply pw_below_drewN | apply below_drew1 | refine below_set ?_ GE345.out) | exact HB.out))); (case aF => exact (fun k_ hk => Kd.freshB (g := gb345) (o := .cells #[.int .i64 ((rd_T42 l0 x7_2).f0), .int .i64 ((rd_T42 l0 x7_2).f1), .int .i64 ((rd_T42 l0 x7_2).f2), .int .i64 ((rd_T42 l0 x7_2).f3)] 42 (0, 0)) (by (with_reducible repeat (first | refine blk_drewN ?_ _ | refine blk_drew ?_ | refine blk_alloc ?_ _)); exact BK345.out) k_ hk)); (case aO => exact (by (with_reducible repeat (first | apply Kd.R_alloc | apply Kd.R_drewN | apply Kd.R_drew)); exact HO_6.out)); (case aS => exact (below_size (by repeat (first | (with_reducible first | exact HB.out | apply below_alloc | apply pw_below_drewN | apply below_drew1 | refine below_set ?_ GE345.out) | exact HB.out)))); (case aL => have := LMc34.out; omega); intro v353 w37 ho hb hg hat; rw [← Ny352.out] at ho; have n0_ := Aside0.mk (blk_grown (g := gb345) (o := .cells #[.int .i64 ((rd_T42 l0 x7_2).f0), .int .i64 ((rd_T42 l0 x7_2).f1), .int .i64 ((rd_T42 l0 x7_2).f2), .int .i64 ((rd_T42 l0 x7_2).f3)] 42 (0, 0)) (by (with_reducible repeat (first | refine blk_drewN ?_ _ | refine blk_drew ?_ | refine blk_alloc ?_ _)); exact BK345.out) hg (Kd.R_away HO_6.out (fun _ hk => hk))); have n1_ := Aside0.mk (hb); have n2_ := Aside0.mk (ho); clear BK345; clear HB; clear HO_6; have BK345 := n0_; have HB := n1_; have HO354 := n2_; clear n0_ n1_ n2_; clear ho hb hg hat; obtain ⟨Ao38, co38, eo38⟩ := Kd.R_slice HO354.out; subst eo38))
                                  go_ret2
                                  exact ⟨_, by first | rfl | (simp [errW_none, errW_some] <;> rfl) | (simp [*, errW_none, errW_some] <;> rfl), by first | exact Kd.R_nil _ _ _ _ _ | exact Kd.N_nil _ _ _ _ _ | exact Kd.V_nil _ _ _ _ _ | exact Kd.Q_nil _ _ _ _ _ | exact Kd.S_nil _ _ _ _ _, by repeat (first | (with_reducible first | exact HB.out | apply below_alloc | apply pw_below_drewN | apply below_drew1 | refine below_set ?_ GE345.out) | exact HB.out)⟩
                                · rw [if_neg c35] at H
                                  have c35b0 : decide (65536 < (y352.length : Int)) = false := decide_eq_false c35
                                  have c35b1 : decide (65536 < y352.length) = false := decide_eq_false (by omega)
                                  clear c35
                                  have H' := Aside0.mk H
                                  clear H
                                  have hcz39_0 : wr.cell? ⟨gb345, 0, none⟩ = some (.int .i64 ((rd_T42 l0 x7_2).f0)) := (blk_cell BK345.out 0).trans rfl
                                  have hcz39_1 : wr.cell? ⟨gb345, 1, none⟩ = some (.int .i64 ((rd_T42 l0 x7_2).f1)) := (blk_cell BK345.out 1).trans rfl
                                  have hcz39_2 : wr.cell? ⟨gb345, 2, none⟩ = some (.int .i64 ((rd_T42 l0 x7_2).f2)) := (blk_cell BK345.out 2).trans rfl
                                  have hcz39_3 : wr.cell? ⟨gb345, 3, none⟩ = some (.int .i64 ((rd_T42 l0 x7_2).f3)) := (blk_cell BK345.out 3).trans rfl
                                  have hfz39_0 := blk_frozen BK345.out 0
                                  have hfz39_1 := blk_frozen BK345.out 1
                                  have hfz39_2 := blk_frozen BK345.out 2
                                  have hfz39_3 := blk_frozen BK345.out 3
                                  go_wp2_with (first | ((with_reducible refine gate_builtin (b := .append) (xs := #[.tmp 84, .tmp 90]) rfl ?_); at_builtin; refine Kd.R_append k42 (w0 := w) w.heap.size rfl (.tmp 84) (.tmp 90) 22 42 (.agg #[(.int .i64 0), (.int .i64 0), (.int .i64 0), (.int .i64 0)]) 32 rfl Try.underlying22 info42 rfl (by decide) (by omega) u6 x6_4 (⟨x9_4, x9_4, wrap64 (((rd_T42 l0 x7_2).f2) + (wrap64 (((rd_T42 l0 x7_2).f3) * (wrap64 (x9_4 - ((rd_T42 l0 x7_2).f0)))))), a1⟩ : S42) [.int .i64 x9_4, .int .i64 x9_4, .int .i64 (wrap64 (((rd_T42 l0 x7_2).f2) + (wrap64 (((rd_T42 l0 x7_2).f3) * (wrap64 (x9_4 - ((rd_T42 l0 x7_2).f0))))))), .int .i64 a1] (fun k_ => k_ ≠ gb345) (fun _ => False) rfl rfl ?aP (fun _ hk => hk.elim) ?aF ?aO ?aB ?aS ?aL ?_; (case aP => exact k42_mkM _ _ _ (⟨x9_4, x9_4, wrap64 (((rd_T42 l0 x7_2).f2) + (wrap64 (((rd_T42 l0 x7_2).f3) * (wrap64 (x9_4 - ((rd_T42 l0 x7_2).f0)))))), a1⟩ : S42)); (case aB => exact (by repeat (first | (with_reducible first | exact HB.out | apply below_alloc | apply pw_below_drewN | apply below_drew1 | refine below_set ?_ GE345.out) | exact HB.out))); (case aF => exact (fun k_ hk => Kd.freshB (g := gb345) (o := .cells #[.int .i64 ((rd_T42 l0 x7_2).f0), .int .i64 ((rd_T42 l0 x7_2).f1), .int .i64 ((rd_T42 l0 x7_2).f2), .int .i64 ((rd_T42 l0 x7_2).f3)] 42 (0, 0)) (by (with_reducible repeat (first | refine blk_drewN ?_ _ | refine blk_drew ?_ | refine blk_alloc ?_ _)); exact BK345.out) k_ hk)); (case aO => exact (by (with_reducible repeat (first | apply Kd.R_alloc | apply Kd.R_drewN | apply Kd.R_drew)); exact HO_6.out)); (case aS => exact (below_size (by repeat (first | (with_reducible first | exact HB.out | apply below_alloc | apply pw_below_drewN | apply below_drew1 | refine below_set ?_ GE345.out) | exact HB.out)))); (case aL => have := LMc34.out; omega); intro v353 w40 ho hb hg hat; rw [← Ny352.out] at ho; have n0_ := Aside0.mk (blk_grown (g := gb345) (o := .cells #[.int .i64 ((rd_T42 l0 x7_2).f0), .int .i64 ((rd_T42 l0 x7_2).f1), .int .i64 ((rd_T42 l0 x7_2).f2), .int .i64 ((rd_T42 l0 x7_2).f3)] 42 (0, 0)) (by (with_reducible repeat (first | refine blk_drewN ?_ _ | refine blk_drew ?_ | refine blk_alloc ?_ _)); exact BK345.out) hg (Kd.R_away HO_6.out (fun _ hk => hk))); have n1_ := Aside0.mk (hb); have n2_ := Aside0.mk (ho); clear BK345; clear HB; clear HO_6; have BK345 := n0_; have HB := n1_; have HO354 := n2_; clear n0_ n1_ n2_; clear ho hb hg hat; obtain ⟨Ao41, co41, eo41⟩ := Kd.R_slice HO354.out; subst eo41))
                                  go_roundg k4
                                  case measure => have := HJ2.out; have := HK2.out; have := HJ12.out; have := HK4.out; omega
                                  case rel => exact ⟨(y352), (wrap64 (x9_4 + 1)), (by first | rfl | (simp; done) | (simp [*]; done)), H', ⟨by have := HJ2.out; have := HK2.out; have := HJ12.out; have := HK4.out; omega⟩, ⟨by (with_reducible repeat (first | apply Kd.R_alloc | apply Kd.R_drewN | apply Kd.R_drew)); exact HO354.out⟩, ⟨by (with_reducible repeat (first | refine blk_drewN ?_ _ | refine blk_drew ?_ | refine blk_alloc ?_ _)); exact BK345.out⟩, ⟨by repeat (first | (with_reducible first | exact HB.out | apply below_alloc | apply pw_below_drewN | apply below_drew1 | refine below_set ?_ GE345.out) | exact HB.out)⟩⟩
                              · rw [if_neg c34] at H
                                exact absurd H (by simp)
                            · rw [if_neg c33] at H
                              have c33b0 : decide (0 < (wrap64 (((rd_T42 l0 x7_2).f2) + (wrap64 (((rd_T42 l0 x7_2).f3) * (wrap64 (x9_4 - ((rd_T42 l0 x7_2).f0)))))))) = false := decide_eq_false c33
                              clear c33
                              by_cases c42 : (x6_4.length : Int) > 65536
                              · rw [if_pos c42] at H
                                have c42b0 : decide (65536 < (x6_4.length : Int)) = true := decide_eq_true c42
                                have c42b1 : decide (65536 < x6_4.length) = true := decide_eq_true (by omega)
                                clear c42
                                simp only [Option.some.injEq, Prod.mk.injEq] at H
                                obtain ⟨rfl, rfl⟩ := H
                                have hcz43_0 : wr.cell? ⟨gb345, 0, none⟩ = some (.int .i64 ((rd_T42 l0 x7_2).f0)) := (blk_cell BK345.out 0).trans rfl
                                have hcz43_1 : wr.cell? ⟨gb345, 1, none⟩ = some (.int .i64 ((rd_T42 l0 x7_2).f1)) := (blk_cell BK345.out 1).trans rfl
                                have hcz43_2 : wr.cell? ⟨gb345, 2, none⟩ = some (.int .i64 ((rd_T42 l0 x7_2).f2)) := (blk_cell BK345.out 2).trans rfl
                                have hcz43_3 : wr.cell? ⟨gb345, 3, none⟩ = some (.int .i64 ((rd_T42 l0 x7_2).f3)) := (blk_cell BK345.out 3).trans rfl
                                have hfz43_0 := blk_frozen BK345.out 0
                                have hfz43_1 := blk_frozen BK345.out 1
                                have hfz43_2 := blk_frozen BK345.out 2
                                have hfz43_3 := blk_frozen BK345.out 3
                                obtain ⟨Ao44, co44, eo44⟩ := Kd.R_slice HO_6.out
                                subst eo44
                                go_wp2
                                go_ret2
                                exact ⟨_, by first | rfl | (simp [errW_none, errW_some] <;> rfl) | (simp [*, errW_none, errW_some] <;> rfl), by first | exact Kd.R_nil _ _ _ _ _ | exact Kd.N_nil _ _ _ _ _ | exact Kd.V_nil _ _ _ _ _ | exact Kd.Q_nil _ _ _ _ _ | exact Kd.S_nil _ _ _ _ _, by repeat (first | (with_reducible first | exact HB.out | apply below_alloc | apply pw_below_drewN | apply below_drew1 | refine below_set ?_ GE345.out) | exact HB.out)⟩
                              · rw [if_neg c42] at H
                                have c42b0 : decide (65536 < (x6_4.length : Int)) = false := decide_eq_false c42
                                have c42b1 : decide (65536 < x6_4.length) = false := decide_eq_false (by omega)
                                clear c42
                                have H' := Aside0.mk H
                                clear H
                                have hcz45_0 : wr.cell? ⟨gb345, 0, none⟩ = some (.int .i64 ((rd_T42 l0 x7_2).f0)) := (blk_cell BK345.out 0).trans rfl
                                have hcz45_1 : wr.cell? ⟨gb345, 1, none⟩ = some (.int .i64 ((rd_T42 l0 x7_2).f1)) := (blk_cell BK345.out 1).trans rfl
                                have hcz45_2 : wr.cell? ⟨gb345, 2, none⟩ = some (.int .i64 ((rd_T42 l0 x7_2).f2)) := (blk_cell BK345.out 2).trans rfl
                                have hcz45_3 : wr.cell? ⟨gb345, 3, none⟩ = some (.int .i64 ((rd_T42 l0 x7_2).f3)) := (blk_cell BK345.out 3).trans rfl
                                have hfz45_0 := blk_frozen BK345.out 0
                                have hfz45_1 := blk_frozen BK345.out 1
                                have hfz45_2 := blk_frozen BK345.out 2
                                have hfz45_3 := blk_frozen BK345.out 3
                                obtain ⟨Ao46, co46, eo46⟩ := Kd.R_slice HO_6.out
                                subst eo46
                                go_wp2
                                go_roundg k4
                                case measure => have := HJ2.out; have := HK2.out; have := HJ12.out; have := HK4.out; omega
                                case rel => exact ⟨(x6_4), (wrap64 (x9_4 + 1)), (by first | rfl | (simp; done) | (simp [*]; done)), H', ⟨by have := HJ2.out; have := HK2.out; have := HJ12.out; have := HK4.out; omega⟩, ⟨by (with_reducible repeat (first | apply Kd.R_alloc | apply Kd.R_drewN | apply Kd.R_drew)); exact HO_6.out⟩, ⟨by (with_reducible repeat (first | refine blk_drewN ?_ _ | refine blk_drew ?_ | refine blk_alloc ?_ _)); exact BK345.out⟩, ⟨by repeat (first | (with_reducible first | exact HB.out | apply below_alloc | apply pw_below_drewN | apply below_drew1 | refine below_set ?_ GE345.out) | exact HB.out)⟩⟩
                          · rw [if_neg c32] at H
                            have c32b0 : decide (x9_4 ≤ ((rd_T42 l0 x7_2).f1)) = false := decide_eq_false c32
                            clear c32
                            have H' := Aside0.mk H
                            clear H
                            have hcz47_0 : wr.cell? ⟨gb345, 0, none⟩ = some (.int .i64 ((rd_T42 l0 x7_2).f0)) := (blk_cell BK345.out 0).trans rfl
                            have hcz47_1 : wr.cell? ⟨gb345, 1, none⟩ = some (.int .i64 ((rd_T42 l0 x7_2).f1)) := (blk_cell BK345.out 1).trans rfl
                            have hcz47_2 : wr.cell? ⟨gb345, 2, none⟩ = some (.int .i64 ((rd_T42 l0 x7_2).f2)) := (blk_cell BK345.out 2).trans rfl
                            have hcz47_3 : wr.cell? ⟨gb345, 3, none⟩ = some (.int .i64 ((rd_T42 l0 x7_2).f3)) := (blk_cell BK345.out 3).trans rfl
                            have hfz47_0 := blk_frozen BK345.out 0
                            have hfz47_1 := blk_frozen BK345.out 1
                            have hfz47_2 := blk_frozen BK345.out 2
                            have hfz47_3 := blk_frozen BK345.out 3
                            go_wp2
                            go_roundg k4
                            case measure => have := HJ2.out; have := HK2.out; have := HJ12.out; have := HK4.out; omega
                            case rel => exact ⟨(x6_4), (wrap64 (x7_2 + 1)), (by first | rfl | (simp; done) | (simp [*]; done)), H', ⟨by have := HJ2.out; have := HK2.out; have := HJ12.out; have := HK4.out; omega⟩, ⟨by (with_reducible repeat (first | apply Kd.R_alloc | apply Kd.R_drewN | apply Kd.R_drew)); exact Kd.R_mono HO_6.out (fun _ hk => trivial)⟩, ⟨by repeat (first | (with_reducible first | exact HB.out | apply below_alloc | apply pw_below_drewN | apply below_drew1 | refine below_set ?_ GE345.out) | exact HB.out)⟩⟩
              · rw [if_neg c12] at H
                exact absurd H (by simp)
            · rw [if_neg c11] at H
              have c11b0 : decide (x7_2 < (l0.length : Int)) = false := decide_eq_false c11
              clear c11
              by_cases c48 : (x6_2.length : Int) > 65536
              · rw [if_pos c48] at H
                have c48b0 : decide (65536 < (x6_2.length : Int)) = true := decide_eq_true c48
                have c48b1 : decide (65536 < x6_2.length) = true := decide_eq_true (by omega)
                clear c48
                simp only [Option.some.injEq, Prod.mk.injEq] at H
                obtain ⟨rfl, rfl⟩ := H
                obtain ⟨Ao49, co49, eo49⟩ := Kd.R_slice HO_6.out
                subst eo49
                go_wp2
                go_ret2
                exact ⟨_, by first | rfl | (simp [errW_none, errW_some] <;> rfl) | (simp [*, errW_none, errW_some] <;> rfl), by first | exact Kd.R_nil _ _ _ _ _ | exact Kd.N_nil _ _ _ _ _ | exact Kd.V_nil _ _ _ _ _ | exact Kd.Q_nil _ _ _ _ _ | exact Kd.S_nil _ _ _ _ _, by repeat (first | (with_reducible first | exact HB.out | apply below_alloc | apply pw_below_drewN | apply below_drew1) | exact HB.out)⟩
              · rw [if_neg c48] at H
                have c48b0 : decide (65536 < (x6_2.length : Int)) = false := decide_eq_false c48
                have c48b1 : decide (65536 < x6_2.length) = false := decide_eq_false (by omega)
                clear c48
                simp only [Option.some.injEq, Prod.mk.injEq] at H
                obtain ⟨rfl, rfl⟩ := H
                obtain ⟨Ao50, co50, eo50⟩ := Kd.R_slice HO_6.out
                subst eo50
                go_wp2
                go_ret2
                exact ⟨_, by first | rfl | (simp [errW_none, errW_some] <;> rfl) | (simp [*, errW_none, errW_some] <;> rfl), by (with_reducible repeat (first | apply Kd.R_alloc | apply Kd.R_drewN | apply Kd.R_drew)); exact HO_6.out, by repeat (first | (with_reducible first | exact HB.out | apply below_alloc | apply pw_below_drewN | apply below_drew1) | exact HB.out)⟩
mutual
def vinculumref10_Put.j0 : Nat → List (S42) → Int → Bool → Option (ByteArray × Int)
  | 0, _, _, _ => none
  | k + 1, x0, x1, x15 => if x15 = true then (some ((⟨#[]⟩ : ByteArray), 1)) else ((vinculumref10_Split.f k x0 (wrap64 (13 - x1))).bind fun bt355 => (if bt355.2 = 0 then ((vinculumref03_Bytes.f k x1 2).bind fun t359 => (if t359.size + 2 ≤ 9223372036854775807 then ((vinculumref03_Bytes.f k (wrap64 (16 + (wrap64 (12 * (bt355.1.length : Int))))) 4).bind fun t360 => (if (t359 ++ (⟨#[0, 0]⟩ : ByteArray)).size + t360.size ≤ 9223372036854775807 then (if ((t359 ++ (⟨#[0, 0]⟩ : ByteArray)) ++ t360).size + 4 ≤ 9223372036854775807 then ((vinculumref03_Bytes.f k (bt355.1.length : Int) 4).bind fun t361 => (if (((t359 ++ (⟨#[0, 0]⟩ : ByteArray)) ++ t360) ++ (⟨#[0, 0, 0, 0]⟩ : ByteArray)).size + t361.size ≤ 9223372036854775807 then (vinculumref10_Put.l0 k bt355.1 ((((t359 ++ (⟨#[0, 0]⟩ : ByteArray)) ++ t360) ++ (⟨#[0, 0, 0, 0]⟩ : ByteArray)) ++ t361) 0) else (none))) else (none)) else (none))) else (none))) else (some ((⟨#[]⟩ : ByteArray), bt355.2))))
def vinculumref10_Put.l0 : Nat → List (S42) → ByteArray → Int → Option (ByteArray × Int)
  | 0, _, _, _ => none
  | k + 1, x6, x8, x9 => if x9 < (x6.length : Int) then (if 0 ≤ x9 then ((vinculumref03_Bytes.f k ((rd_T42 x6 x9).f0) 4).bind fun t363 => (if x8.size + t363.size ≤ 9223372036854775807 then ((vinculumref03_Bytes.f k ((rd_T42 x6 x9).f1) 4).bind fun t365 => (if (x8 ++ t363).size + t365.size ≤ 9223372036854775807 then ((vinculumref03_Bytes.f k ((rd_T42 x6 x9).f2) 4).bind fun t367 => (if ((x8 ++ t363) ++ t365).size + t367.size ≤ 9223372036854775807 then (vinculumref10_Put.l0 k x6 (((x8 ++ t363) ++ t365) ++ t367) (wrap64 (x9 + 1))) else (none))) else (none))) else (none))) else (none)) else (some (x8, 0))
end
def vinculumref10_Put.f (k : Nat) (l0 : List (S42)) (a1 : Int) : Option (ByteArray × Int) := if a1 = 12 then (vinculumref10_Put.j0 k l0 a1 false) else (vinculumref10_Put.j0 k l0 a1 (a1 != 13))
def vinculumref10_Put.T10 : Bool × List (List Nat × List Nat) := (true, [([], []), ([], []), ([], []), ([1, 2], [1, 2]), ([3], [3]), ([4], [4]), ([5], [5]), ([0, 6], [0, 6]), ([], []), ([], []), ([8, 9], [8, 9]), ([10], [10]), ([11], [11]), ([12, 6], [12]), ([7, 13], [7, 13]), ([], []), ([], []), ([15, 16], [15, 16]), ([17], [17]), ([18], [18]), ([19, 13], [19]), ([14, 20], [14, 20]), ([21, 20, 0, 1, 2, 3, 4, 5, 6, 7, 8, 9, 10, 11, 12, 13, 14, 15, 16, 17, 18, 19, 20, 21], [0, 21])])
def vinculumref10_Put.B10 : List Nat := [0, 0, 0, 6, 14, 30, 62, 127, 0, 0, 768, 1792, 3840, 8062, 16383, 0, 0, 98304, 229376, 491520, 1032062, 2097151, 4194303]
theorem vinculumref10_Put.tab10 : rtab .any (opsOf Try.f33 10) = vinculumref10_Put.T10 := by kernel_rfl
theorem vinculumref10_Put.bits10 : waitsOk vinculumref10_Put.T10.2 vinculumref10_Put.B10 = true := by kernel_rfl
set_option maxHeartbeats 8000000 in
set_option maxRecDepth 100000 in
theorem vinculumref10_Put.calls (k : Nat) (A0 : Option Addr) (c0 : Nat) (l0 : List (S42)) (a1 : Int) (r1 : ByteArray) (r2 : Int) (w : World) (hr0 : Kd.C k42 w A0 l0.length l0) (hc0 : l0.length ≤ c0) (h : vinculumref10_Put.f k l0 a1 = some (r1, r2)) :
    Calls Try.prog 33 #[.slice A0 l0.length c0, .int .i64 a1] w fun e w' => e = .returned (.tuple #[.string r1, .int .i64 r2]) ∧ Below w.heap.size w w' := by
  have HR0 := Aside0.mk hr0
  have HC0 := Aside0.mk hc0
  clear hr0 hc0
  have HB := Aside0.mk (Below.refl w.heap.size w)
  have H : (if a1 = 12 then (vinculumref10_Put.j0 k l0 a1 false) else (vinculumref10_Put.j0 k l0 a1 (a1 != 13))) = some (r1, r2) := h
  clear h
  have HC3 := Aside0.mk H
  clear H
  go_enter Try.func33, Try.ntmps33
  go_upto_region 1 with (fail)
  go_cut [15] (fun v15 wc => ∃ (kq : Nat) (x15_2 : Bool), v15 = .bool x15_2 ∧ Aside0 (vinculumref10_Put.j0 kq l0 a1 x15_2 = some (r1, r2)) ∧ Aside0 (kq ≤ k) ∧ Aside0 (Below w.heap.size w wc))
  case first =>
    have H := HC3.out
    clear HC3
    by_cases c4 : a1 = 12
    · rw [if_pos c4] at H
      have c4b0 : (a1 == 12) = true := beq_iff_eq.mpr c4
      have c4b1 : (a1 != 12) = false := bne_eq_false_iff_eq.mpr c4
      clear c4
      (first | rw [c4b0] | (simp only [i64_w, i32_w]; rw [c4b0]) | skip)
      have H' := Aside0.mk H
      clear H
      go_wp2
      go_meet
      case rel => exact ⟨_, (false), (by first | rfl | (simp; done) | (simp [*]; done)), H', ⟨by first | omega | exact Nat.le_refl _⟩, ⟨by repeat (first | (with_reducible first | exact HB.out | apply below_alloc | apply pw_below_drewN | apply below_drew1) | exact HB.out)⟩⟩
    · rw [if_neg c4] at H
      have c4b0 : (a1 == 12) = false := beq_eq_false_iff_ne.mpr c4
      have c4b1 : (a1 != 12) = true := bne_iff_ne.mpr c4
      (first | rw [c4b0] | (simp only [i64_w, i32_w]; rw [c4b0]) | skip)
      have H' := Aside0.mk H
      clear H
      go_wp2
      go_meet
      case rel => exact ⟨_, ((a1 != 13)), (by first | rfl | (simp; done) | (simp [*]; done)), H', ⟨by first | omega | exact Nat.le_refl _⟩, ⟨by repeat (first | (with_reducible first | exact HB.out | apply below_alloc | apply pw_below_drewN | apply below_drew1) | exact HB.out)⟩⟩
  case rest =>
    clear HC3
    try clear p2
    try clear c3
    try clear c4
    try clear c4b0
    try clear c4b1
    obtain ⟨kq, x15_2, rfl, HA, HJ2, HB⟩ := hcut
    cases kq with
    | zero => exact absurd HA.out (by simp [vinculumref10_Put.j0])
    | succ kj2 =>
      have H := HA.out
      clear HA
      simp only [vinculumref10_Put.j0] at H
      by_cases c5 : x15_2 = true
      · subst c5
        have H1 : (some ((⟨#[]⟩ : ByteArray), 1)) = some (r1, r2) := by rw [if_pos rfl] at H; exact H
        clear H
        have H := H1
        clear H1
        simp only [Option.some.injEq, Prod.mk.injEq] at H
        obtain ⟨rfl, rfl⟩ := H
        go_wp2
        go_ret2
        exact ⟨by first | rfl | (simp [errW_none, errW_some] <;> rfl) | (simp [*, errW_none, errW_some] <;> rfl), by repeat (first | (with_reducible first | exact HB.out | apply below_alloc | apply pw_below_drewN | apply below_drew1) | exact HB.out)⟩
      · replace c5 := Bool.eq_false_iff.mpr c5
        subst c5
        have H1 : ((vinculumref10_Split.f kj2 l0 (wrap64 (13 - a1))).bind fun bt355 => (if bt355.2 = 0 then ((vinculumref03_Bytes.f kj2 a1 2).bind fun t359 => (if t359.size + 2 ≤ 9223372036854775807 then ((vinculumref03_Bytes.f kj2 (wrap64 (16 + (wrap64 (12 * (bt355.1.length : Int))))) 4).bind fun t360 => (if (t359 ++ (⟨#[0, 0]⟩ : ByteArray)).size + t360.size ≤ 9223372036854775807 then (if ((t359 ++ (⟨#[0, 0]⟩ : ByteArray)) ++ t360).size + 4 ≤ 9223372036854775807 then ((vinculumref03_Bytes.f kj2 (bt355.1.length : Int) 4).bind fun t361 => (if (((t359 ++ (⟨#[0, 0]⟩ : ByteArray)) ++ t360) ++ (⟨#[0, 0, 0, 0]⟩ : ByteArray)).size + t361.size ≤ 9223372036854775807 then (vinculumref10_Put.l0 kj2 bt355.1 ((((t359 ++ (⟨#[0, 0]⟩ : ByteArray)) ++ t360) ++ (⟨#[0, 0, 0, 0]⟩ : ByteArray)) ++ t361) 0) else (none))) else (none)) else (none))) else (none))) else (some ((⟨#[]⟩ : ByteArray), bt355.2)))) = some (r1, r2) := by rw [if_neg (show ¬ (false = true) by decide)] at H; exact H
        clear H
        have H := H1
        clear H1
        replace H := Option.bind_eq_some_iff.mp H
        obtain ⟨⟨t355, t356⟩, A60, H⟩ := H
        replace H : (if t356 = 0 then ((vinculumref03_Bytes.f kj2 a1 2).bind fun t359 => (if t359.size + 2 ≤ 9223372036854775807 then ((vinculumref03_Bytes.f kj2 (wrap64 (16 + (wrap64 (12 * (t355.length : Int))))) 4).bind fun t360 => (if (t359 ++ (⟨#[0, 0]⟩ : ByteArray)).size + t360.size ≤ 9223372036854775807 then (if ((t359 ++ (⟨#[0, 0]⟩ : ByteArray)) ++ t360).size + 4 ≤ 9223372036854775807 then ((vinculumref03_Bytes.f kj2 (t355.length : Int) 4).bind fun t361 => (if (((t359 ++ (⟨#[0, 0]⟩ : ByteArray)) ++ t360) ++ (⟨#[0, 0, 0, 0]⟩ : ByteArray)).size + t361.size ≤ 9223372036854775807 then (vinculumref10_Put.l0 kj2 t355 ((((t359 ++ (⟨#[0, 0]⟩ : ByteArray)) ++ t360) ++ (⟨#[0, 0, 0, 0]⟩ : ByteArray)) ++ t361) 0) else (none))) else (none)) else (none))) else (none))) else (some ((⟨#[]⟩ : ByteArray), t356))) = some (r1, r2) := H
        have A6 := Aside0.mk A60
        clear A60
        by_cases c7 : t356 = 0
        · rw [if_pos c7] at H
          have c7b0 : (t356 == 0) = true := beq_iff_eq.mpr c7
          have c7b1 : (t356 != 0) = false := bne_eq_false_iff_eq.mpr c7
          clear c7
          replace H := Option.bind_eq_some_iff.mp H
          obtain ⟨t359, A80, H⟩ := H
          replace H : (if t359.size + 2 ≤ 9223372036854775807 then ((vinculumref03_Bytes.f kj2 (wrap64 (16 + (wrap64 (12 * (t355.length : Int))))) 4).bind fun t360 => (if (t359 ++ (⟨#[0, 0]⟩ : ByteArray)).size + t360.size ≤ 9223372036854775807 then (if ((t359 ++ (⟨#[0, 0]⟩ : ByteArray)) ++ t360).size + 4 ≤ 9223372036854775807 then ((vinculumref03_Bytes.f kj2 (t355.length : Int) 4).bind fun t361 => (if (((t359 ++ (⟨#[0, 0]⟩ : ByteArray)) ++ t360) ++ (⟨#[0, 0, 0, 0]⟩ : ByteArray)).size + t361.size ≤ 9223372036854775807 then (vinculumref10_Put.l0 kj2 t355 ((((t359 ++ (⟨#[0, 0]⟩ : ByteArray)) ++ t360) ++ (⟨#[0, 0, 0, 0]⟩ : ByteArray)) ++ t361) 0) else (none))) else (none)) else (none))) else (none)) = some (r1, r2) := H
          have A8 := Aside0.mk A80
          clear A80
          by_cases c9 : t359.size + 2 ≤ 9223372036854775807
          · rw [if_pos c9] at H
            have c9b0 := eq_true c9
            have c9b1 : decide (t359.size + 2 ≤ 9223372036854775807) = true := decide_eq_true c9
            try have c9b2 : (9223372036854775807 < t359.size + 2) = False := eq_false (Nat.not_lt.2 c9)
            replace H := Option.bind_eq_some_iff.mp H
            obtain ⟨t360, A100, H⟩ := H
            replace H : (if (t359 ++ (⟨#[0, 0]⟩ : ByteArray)).size + t360.size ≤ 9223372036854775807 then (if ((t359 ++ (⟨#[0, 0]⟩ : ByteArray)) ++ t360).size + 4 ≤ 9223372036854775807 then ((vinculumref03_Bytes.f kj2 (t355.length : Int) 4).bind fun t361 => (if (((t359 ++ (⟨#[0, 0]⟩ : ByteArray)) ++ t360) ++ (⟨#[0, 0, 0, 0]⟩ : ByteArray)).size + t361.size ≤ 9223372036854775807 then (vinculumref10_Put.l0 kj2 t355 ((((t359 ++ (⟨#[0, 0]⟩ : ByteArray)) ++ t360) ++ (⟨#[0, 0, 0, 0]⟩ : ByteArray)) ++ t361) 0) else (none))) else (none)) else (none)) = some (r1, r2) := H
            have A10 := Aside0.mk A100
            clear A100
            by_cases c11 : (t359 ++ (⟨#[0, 0]⟩ : ByteArray)).size + t360.size ≤ 9223372036854775807
            · rw [if_pos c11] at H
              have c11b0 := eq_true c11
              have c11b1 : decide ((t359 ++ (⟨#[0, 0]⟩ : ByteArray)).size + t360.size ≤ 9223372036854775807) = true := decide_eq_true c11
              try have c11b2 : (9223372036854775807 < (t359 ++ (⟨#[0, 0]⟩ : ByteArray)).size + t360.size) = False := eq_false (Nat.not_lt.2 c11)
              try (have c11b3 := c11b2; simp only [ByteArray.size_append, show ∀ a b : UInt8, (⟨#[a, b]⟩ : ByteArray).size = 2 from fun _ _ => rfl, show ∀ a b c d : UInt8, (⟨#[a, b, c, d]⟩ : ByteArray).size = 4 from fun _ _ _ _ => rfl, show ∀ a b c d e f g h : UInt8, (⟨#[a, b, c, d, e, f, g, h]⟩ : ByteArray).size = 8 from fun _ _ _ _ _ _ _ _ => rfl] at c11b3)
              by_cases c12 : ((t359 ++ (⟨#[0, 0]⟩ : ByteArray)) ++ t360).size + 4 ≤ 9223372036854775807
              · rw [if_pos c12] at H
                have c12b0 := eq_true c12
                have c12b1 : decide (((t359 ++ (⟨#[0, 0]⟩ : ByteArray)) ++ t360).size + 4 ≤ 9223372036854775807) = true := decide_eq_true c12
                try have c12b2 : (9223372036854775807 < ((t359 ++ (⟨#[0, 0]⟩ : ByteArray)) ++ t360).size + 4) = False := eq_false (Nat.not_lt.2 c12)
                try (have c12b3 := c12b2; simp only [ByteArray.size_append, show ∀ a b : UInt8, (⟨#[a, b]⟩ : ByteArray).size = 2 from fun _ _ => rfl, show ∀ a b c d : UInt8, (⟨#[a, b, c, d]⟩ : ByteArray).size = 4 from fun _ _ _ _ => rfl, show ∀ a b c d e f g h : UInt8, (⟨#[a, b, c, d, e, f, g, h]⟩ : ByteArray).size = 8 from fun _ _ _ _ _ _ _ _ => rfl] at c12b3)
                replace H := Option.bind_eq_some_iff.mp H
                obtain ⟨t361, A130, H⟩ := H
                replace H : (if (((t359 ++ (⟨#[0, 0]⟩ : ByteArray)) ++ t360) ++ (⟨#[0, 0, 0, 0]⟩ : ByteArray)).size + t361.size ≤ 9223372036854775807 then (vinculumref10_Put.l0 kj2 t355 ((((t359 ++ (⟨#[0, 0]⟩ : ByteArray)) ++ t360) ++ (⟨#[0, 0, 0, 0]⟩ : ByteArray)) ++ t361) 0) else (none)) = some (r1, r2) := H
                have A13 := Aside0.mk A130
                clear A130
                by_cases c14 : (((t359 ++ (⟨#[0, 0]⟩ : ByteArray)) ++ t360) ++ (⟨#[0, 0, 0, 0]⟩ : ByteArray)).size + t361.size ≤ 9223372036854775807
                · rw [if_pos c14] at H
                  have c14b0 := eq_true c14
                  have c14b1 : decide ((((t359 ++ (⟨#[0, 0]⟩ : ByteArray)) ++ t360) ++ (⟨#[0, 0, 0, 0]⟩ : ByteArray)).size + t361.size ≤ 9223372036854775807) = true := decide_eq_true c14
                  try have c14b2 : (9223372036854775807 < (((t359 ++ (⟨#[0, 0]⟩ : ByteArray)) ++ t360) ++ (⟨#[0, 0, 0, 0]⟩ : ByteArray)).size + t361.size) = False := eq_false (Nat.not_lt.2 c14)
                  try (have c14b3 := c14b2; simp only [ByteArray.size_append, show ∀ a b : UInt8, (⟨#[a, b]⟩ : ByteArray).size = 2 from fun _ _ => rfl, show ∀ a b c d : UInt8, (⟨#[a, b, c, d]⟩ : ByteArray).size = 4 from fun _ _ _ _ => rfl, show ∀ a b c d e f g h : UInt8, (⟨#[a, b, c, d, e, f, g, h]⟩ : ByteArray).size = 8 from fun _ _ _ _ _ _ _ _ => rfl] at c14b3)
                  have H' := Aside0.mk H
                  clear H
                  go_wp2_with (first | ((with_reducible refine gate_callee (f := 31) rfl ?_); refine goesL_ (some 20) rfl rfl Try.func31 (by kernel_rfl) rfl #[.slice A0 l0.length c0, .int .i64 (wrap64 (13 - a1))] rfl (by (try simp only [List.map_toArray, List.map_cons, List.map_nil]); first | done | rfl | (simp only [List.length_drop, List.length_take]; rfl)) ?_; (with_reducible refine (vinculumref10_Split.calls kj2 _ _ l0 (wrap64 (13 - a1)) t355 t356 _ ?side1 ?side2 A6.out).mono ?_); (case side1 => repeat (first | exact (Kd.C_below HR0.out HB.out) | (with_reducible refine Kd.C_alloc ?_ _) | (with_reducible refine Kd.C_drewN ?_ _) | (with_reducible refine Kd.C_drew ?_))); (case side2 => exact HC0.out); rintro e w15 ⟨v357, rfl, ho0, hb⟩; refine ⟨_, rfl, ?_⟩; have n0_ := Aside0.mk (Kd.R_lower ho0 (below_size (by repeat (first | (with_reducible first | exact HB.out | apply below_alloc | apply pw_below_drewN | apply below_drew1) | exact HB.out)))); have n1_ := Aside0.mk (below_step (by repeat (first | (with_reducible first | exact HB.out | apply below_alloc | apply pw_below_drewN | apply below_drew1) | exact HB.out)) hb); clear HB; have HO358 := n0_; have HB := n1_; clear n0_ n1_; (try clear hb); (try clear hb2); (try clear hk); (try clear hi); (try clear ho0)) | ((with_reducible refine gate_callee (f := 23) rfl ?_); refine goesL_ (some 27) rfl rfl Try.func23 (by kernel_rfl) rfl #[.int .i64 a1, .int .i64 2] rfl (by (try simp only [List.map_toArray, List.map_cons, List.map_nil]); first | done | rfl | (simp only [List.length_drop, List.length_take]; rfl)) ?_; (with_reducible refine (vinculumref03_Bytes.calls kj2 a1 2 t359 _ A8.out).mono ?_); rintro e w16 ⟨rfl, hb⟩; refine ⟨_, rfl, ?_⟩; have n0_ := Aside0.mk (Kd.R_below (by (with_reducible repeat (first | apply Kd.R_alloc | apply Kd.R_drewN | apply Kd.R_drew)); exact HO358.out) hb); have n1_ := Aside0.mk (below_step (by repeat (first | (with_reducible first | exact HB.out | apply below_alloc | apply pw_below_drewN | apply below_drew1) | exact HB.out)) hb); clear HO358; clear HB; have HO358 := n0_; have HB := n1_; clear n0_ n1_; (try clear hb); (try clear hb2); (try clear hk); (try clear hi); obtain ⟨Ao17, co17, eo17⟩ := Kd.R_slice HO358.out; subst eo17) | ((with_reducible refine gate_callee (f := 23) rfl ?_); refine goesL_ (some 33) rfl rfl Try.func23 (by kernel_rfl) rfl #[.int .i64 (wrap64 (16 + (wrap64 (12 * (t355.length : Int))))), .int .i64 4] rfl (by (try simp only [List.map_toArray, List.map_cons, List.map_nil]); first | done | rfl | (simp only [List.length_drop, List.length_take]; rfl)) ?_; (with_reducible refine (vinculumref03_Bytes.calls kj2 (wrap64 (16 + (wrap64 (12 * (t355.length : Int))))) 4 t360 _ A10.out).mono ?_); rintro e w18 ⟨rfl, hb⟩; refine ⟨_, rfl, ?_⟩; have n0_ := Aside0.mk (Kd.R_below (by (with_reducible repeat (first | apply Kd.R_alloc | apply Kd.R_drewN | apply Kd.R_drew)); exact HO358.out) hb); have n1_ := Aside0.mk (below_step (by repeat (first | (with_reducible first | exact HB.out | apply below_alloc | apply pw_below_drewN | apply below_drew1) | exact HB.out)) hb); clear HO358; clear HB; have HO358 := n0_; have HB := n1_; clear n0_ n1_; (try clear hb); (try clear hb2); (try clear hk); (try clear hi)) | ((with_reducible refine gate_callee (f := 23) rfl ?_); refine goesL_ (some 38) rfl rfl Try.func23 (by kernel_rfl) rfl #[.int .i64 (t355.length : Int), .int .i64 4] rfl (by (try simp only [List.map_toArray, List.map_cons, List.map_nil]); first | done | rfl | (simp only [List.length_drop, List.length_take]; rfl)) ?_; (with_reducible refine (vinculumref03_Bytes.calls kj2 (t355.length : Int) 4 t361 _ A13.out).mono ?_); rintro e w19 ⟨rfl, hb⟩; refine ⟨_, rfl, ?_⟩; have n0_ := Aside0.mk (Kd.R_below (by (with_reducible repeat (first | apply Kd.R_alloc | apply Kd.R_drewN | apply Kd.R_drew)); exact HO358.out) hb); have n1_ := Aside0.mk (below_step (by repeat (first | (with_reducible first | exact HB.out | apply below_alloc | apply pw_below_drewN | apply below_drew1) | exact HB.out)) hb); clear HO358; clear HB; have HO358 := n0_; have HB := n1_; clear n0_ n1_; (try clear hb); (try clear hb2); (try clear hk); (try clear hi)))
                  go_loopg [8, 9] kj2 (fun kq v8 v9 w' => ∃ (x8_2 : ByteArray) (x9_2 : Int), v8 = .string x8_2 ∧ v9 = .int .i64 x9_2 ∧ Aside0 (vinculumref10_Put.l0 kq t355 x8_2 x9_2 = some (r1, r2)) ∧ Aside0 (kq ≤ kj2) ∧ Aside0 (Kd.R k42 42 w' w.heap.size (fun _ => True) (.slice Ao17 t355.length co17) t355) ∧ Aside0 (Below w.heap.size w w'))
                  case atStart => exact ⟨((((t359 ++ (⟨#[0, 0]⟩ : ByteArray)) ++ t360) ++ (⟨#[0, 0, 0, 0]⟩ : ByteArray)) ++ t361), (0), (by first | rfl | (simp; done) | (simp [*]; done)), (by first | rfl | (simp; done) | (simp [*]; done)), H', ⟨Nat.le_refl _⟩, ⟨by (with_reducible repeat (first | apply Kd.R_alloc | apply Kd.R_drewN | apply Kd.R_drew)); exact HO358.out⟩, ⟨by repeat (first | (with_reducible first | exact HB.out | apply below_alloc | apply pw_below_drewN | apply below_drew1) | exact HB.out)⟩⟩
                  case round =>
                    clear H'
                    try clear c1
                    try clear c2
                    try clear p2
                    try clear c3
                    try clear c4
                    try clear c4b0
                    try clear c4b1
                    try clear c5
                    try clear p6
                    try clear c7
                    try clear c7b0
                    try clear c7b1
                    try clear c9
                    try clear c9b0
                    try clear c9b1
                    try clear c9b2
                    try clear c11
                    try clear c11b0
                    try clear c11b1
                    try clear c11b2
                    try clear c12
                    try clear c12b0
                    try clear c12b1
                    try clear c12b2
                    try clear c14
                    try clear c14b0
                    try clear c14b1
                    try clear c14b2
                    try clear p2
                    obtain ⟨x8_2, x9_2, rfl, rfl, HA, HK2, HO_6, HB⟩ := hrel
                    cases gk with
                    | zero => exact absurd HA.out (by simp [vinculumref10_Put.l0])
                    | succ k2 =>
                      have H := HA.out
                      clear HA
                      simp only [vinculumref10_Put.l0] at H
                      by_cases c20 : x9_2 < (t355.length : Int)
                      · rw [if_pos c20] at H
                        have c20b0 : decide (x9_2 < (t355.length : Int)) = true := decide_eq_true c20
                        clear c20
                        by_cases c21 : 0 ≤ x9_2
                        · rw [if_pos c21] at H
                          have c21b0 : decide (0 ≤ x9_2) = true := decide_eq_true c21
                          clear c21
                          replace H := Option.bind_eq_some_iff.mp H
                          obtain ⟨t363, A220, H⟩ := H
                          replace H : (if x8_2.size + t363.size ≤ 9223372036854775807 then ((vinculumref03_Bytes.f k2 ((rd_T42 t355 x9_2).f1) 4).bind fun t365 => (if (x8_2 ++ t363).size + t365.size ≤ 9223372036854775807 then ((vinculumref03_Bytes.f k2 ((rd_T42 t355 x9_2).f2) 4).bind fun t367 => (if ((x8_2 ++ t363) ++ t365).size + t367.size ≤ 9223372036854775807 then (vinculumref10_Put.l0 k2 t355 (((x8_2 ++ t363) ++ t365) ++ t367) (wrap64 (x9_2 + 1))) else (none))) else (none))) else (none)) = some (r1, r2) := H
                          have A22 := Aside0.mk A220
                          clear A220
                          by_cases c23 : x8_2.size + t363.size ≤ 9223372036854775807
                          · rw [if_pos c23] at H
                            have c23b0 := eq_true c23
                            have c23b1 : decide (x8_2.size + t363.size ≤ 9223372036854775807) = true := decide_eq_true c23
                            try have c23b2 : (9223372036854775807 < x8_2.size + t363.size) = False := eq_false (Nat.not_lt.2 c23)
                            replace H := Option.bind_eq_some_iff.mp H
                            obtain ⟨t365, A240, H⟩ := H
                            replace H : (if (x8_2 ++ t363).size + t365.size ≤ 9223372036854775807 then ((vinculumref03_Bytes.f k2 ((rd_T42 t355 x9_2).f2) 4).bind fun t367 => (if ((x8_2 ++ t363) ++ t365).size + t367.size ≤ 9223372036854775807 then (vinculumref10_Put.l0 k2 t355 (((x8_2 ++ t363) ++ t365) ++ t367) (wrap64 (x9_2 + 1))) else (none))) else (none)) = some (r1, r2) := H
                            have A24 := Aside0.mk A240
                            clear A240
                            by_cases c25 : (x8_2 ++ t363).size + t365.size ≤ 9223372036854775807
                            · rw [if_pos c25] at H
                              have c25b0 := eq_true c25
                              have c25b1 : decide ((x8_2 ++ t363).size + t365.size ≤ 9223372036854775807) = true := decide_eq_true c25
                              try have c25b2 : (9223372036854775807 < (x8_2 ++ t363).size + t365.size) = False := eq_false (Nat.not_lt.2 c25)
                              try (have c25b3 := c25b2; simp only [ByteArray.size_append, show ∀ a b : UInt8, (⟨#[a, b]⟩ : ByteArray).size = 2 from fun _ _ => rfl, show ∀ a b c d : UInt8, (⟨#[a, b, c, d]⟩ : ByteArray).size = 4 from fun _ _ _ _ => rfl, show ∀ a b c d e f g h : UInt8, (⟨#[a, b, c, d, e, f, g, h]⟩ : ByteArray).size = 8 from fun _ _ _ _ _ _ _ _ => rfl] at c25b3)
                              replace H := Option.bind_eq_some_iff.mp H
                              obtain ⟨t367, A260, H⟩ := H
                              replace H : (if ((x8_2 ++ t363) ++ t365).size + t367.size ≤ 9223372036854775807 then (vinculumref10_Put.l0 k2 t355 (((x8_2 ++ t363) ++ t365) ++ t367) (wrap64 (x9_2 + 1))) else (none)) = some (r1, r2) := H
                              have A26 := Aside0.mk A260
                              clear A260
                              by_cases c27 : ((x8_2 ++ t363) ++ t365).size + t367.size ≤ 9223372036854775807
                              · rw [if_pos c27] at H
                                have c27b0 := eq_true c27
                                have c27b1 : decide (((x8_2 ++ t363) ++ t365).size + t367.size ≤ 9223372036854775807) = true := decide_eq_true c27
                                try have c27b2 : (9223372036854775807 < ((x8_2 ++ t363) ++ t365).size + t367.size) = False := eq_false (Nat.not_lt.2 c27)
                                try (have c27b3 := c27b2; simp only [ByteArray.size_append, show ∀ a b : UInt8, (⟨#[a, b]⟩ : ByteArray).size = 2 from fun _ _ => rfl, show ∀ a b c d : UInt8, (⟨#[a, b, c, d]⟩ : ByteArray).size = 4 from fun _ _ _ _ => rfl, show ∀ a b c d e f g h : UInt8, (⟨#[a, b, c, d, e, f, g, h]⟩ : ByteArray).size = 8 from fun _ _ _ _ _ _ _ _ => rfl] at c27b3)
                                have H' := Aside0.mk H
                                clear H
                                try go_wp2
                                have n0_ := Aside0.mk (Kd.R_drew HO_6.out)
                                have n1_ := Aside0.mk (below_drew1 HB.out)
                                clear HO_6
                                clear HB
                                have HO_6 := n0_
                                have HB := n1_
                                clear n0_ n1_
                                have p362 : 0 ≤ (x9_2 : Int) := of_decide_eq_true (by first | (with_reducible assumption) | assumption)
                                have q362 : x9_2 < (t355.length : Int) := of_decide_eq_true (by first | (with_reducible assumption) | assumption)
                                obtain ⟨ad362, e362, hx362_0, hx362_1, hx362_2, hx362_3⟩ := at_T42 (Kd.R_reads' HO_6.out).2.2 x9_2 p362 q362
                                cases e362
                                replace p362 := eq_true p362
                                replace q362 := eq_true q362
                                have p364 : 0 ≤ (x9_2 : Int) := of_decide_eq_true (by first | (with_reducible assumption) | assumption)
                                have q364 : x9_2 < (t355.length : Int) := of_decide_eq_true (by first | (with_reducible assumption) | assumption)
                                obtain ⟨ad364, e364, hx364_0, hx364_1, hx364_2, hx364_3⟩ := at_T42 (Kd.R_reads' HO_6.out).2.2 x9_2 p364 q364
                                obtain rfl : ad362 = ad364 := (by injection e364)
                                replace p364 := eq_true p364
                                replace q364 := eq_true q364
                                have p366 : 0 ≤ (x9_2 : Int) := of_decide_eq_true (by first | (with_reducible assumption) | assumption)
                                have q366 : x9_2 < (t355.length : Int) := of_decide_eq_true (by first | (with_reducible assumption) | assumption)
                                obtain ⟨ad366, e366, hx366_0, hx366_1, hx366_2, hx366_3⟩ := at_T42 (Kd.R_reads' HO_6.out).2.2 x9_2 p366 q366
                                obtain rfl : ad362 = ad366 := (by injection e366)
                                replace p366 := eq_true p366
                                replace q366 := eq_true q366
                                refine start_ (n := 23) (S := fun w' => w'.cell? (ad362.add ((x9_2).toNat * 4)) = some (.int .i64 ((rd_T42 t355 x9_2).f0)) ∧ w'.cell? ⟨(ad362.add ((x9_2).toNat * 4)).block, (ad362.add ((x9_2).toNat * 4)).off + 1, none⟩ = some (.int .i64 ((rd_T42 t355 x9_2).f1)) ∧ w'.cell? ⟨(ad362.add ((x9_2).toNat * 4)).block, (ad362.add ((x9_2).toNat * 4)).off + 2, none⟩ = some (.int .i64 ((rd_T42 t355 x9_2).f2)) ∧ w'.cell? ⟨(ad362.add ((x9_2).toNat * 4)).block, (ad362.add ((x9_2).toNat * 4)).off + 3, none⟩ = some (.int .i64 ((rd_T42 t355 x9_2).f3)) ∧ w'.cell? (ad362.add ((x9_2).toNat * 4)) = some (.int .i64 ((rd_T42 t355 x9_2).f0)) ∧ w'.cell? ⟨(ad362.add ((x9_2).toNat * 4)).block, (ad362.add ((x9_2).toNat * 4)).off + 1, none⟩ = some (.int .i64 ((rd_T42 t355 x9_2).f1)) ∧ w'.cell? ⟨(ad362.add ((x9_2).toNat * 4)).block, (ad362.add ((x9_2).toNat * 4)).off + 2, none⟩ = some (.int .i64 ((rd_T42 t355 x9_2).f2)) ∧ w'.cell? ⟨(ad362.add ((x9_2).toNat * 4)).block, (ad362.add ((x9_2).toNat * 4)).off + 3, none⟩ = some (.int .i64 ((rd_T42 t355 x9_2).f3)) ∧ w'.cell? (ad362.add ((x9_2).toNat * 4)) = some (.int .i64 ((rd_T42 t355 x9_2).f0)) ∧ w'.cell? ⟨(ad362.add ((x9_2).toNat * 4)).block, (ad362.add ((x9_2).toNat * 4)).off + 1, none⟩ = some (.int .i64 ((rd_T42 t355 x9_2).f1)) ∧ w'.cell? ⟨(ad362.add ((x9_2).toNat * 4)).block, (ad362.add ((x9_2).toNat * 4)).off + 2, none⟩ = some (.int .i64 ((rd_T42 t355 x9_2).f2)) ∧ w'.cell? ⟨(ad362.add ((x9_2).toNat * 4)).block, (ad362.add ((x9_2).toNat * 4)).off + 3, none⟩ = some (.int .i64 ((rd_T42 t355 x9_2).f3))) (ds := []) #[false, false, false, false, false, false, false, false, false, false, false, false, false, false, false, false, false, false, false, false, false, false, false] (by kernel_rfl) rfl rfl ⟨hx362_0, hx362_1, hx362_2, hx362_3, hx364_0, hx364_1, hx364_2, hx364_3, hx366_0, hx366_1, hx366_2, hx366_3⟩ (fun hHeld => ?_); refine with_tabW vinculumref10_Put.tab10 vinculumref10_Put.bits10 (fun HT_ HW_ => ?_)
                                generalize wr.drew = w28 at HO_6 HB hx362_0 hx362_1 hx362_2 hx362_3 hx364_0 hx364_1 hx364_2 hx364_3 hx366_0 hx366_1 hx366_2 hx366_3 hHeld ⊢
                                refine pure_ (i := 0) (N := some 46) (v := ?_) (a' := ?_) #[true, false, false, false, false, false, false, false, false, false, false, false, false, false, false, false, false, false, false, false, false, false, false] rfl rfl (any_of HT_.out (by kernel_rfl)) (fun _ _ _ h => h) (Or.inl ⟨by rfl, ?_⟩) ?_ ?_
                                rotate_left
                                · intro w'
                                  go_simp
                                  with_reducible rfl
                                rotate_left
                                · simp only [Act.put, List.setIfInBounds_toArray, List.set_cons_zero, List.set_cons_succ, i64_w, i32_w]
                                  rfl
                                refine pure_ (i := 1) (N := some 47) (v := ?_) (a' := ?_) #[true, true, false, false, false, false, false, false, false, false, false, false, false, false, false, false, false, false, false, false, false, false, false] rfl rfl (any_of HT_.out (by kernel_rfl)) (fun _ _ _ h => h) (Or.inl ⟨by rfl, ?_⟩) ?_ ?_
                                rotate_left
                                · intro w'
                                  go_simp
                                  with_reducible rfl
                                rotate_left
                                · simp only [Act.put, List.setIfInBounds_toArray, List.set_cons_zero, List.set_cons_succ, i64_w, i32_w]
                                  rfl
                                refine pure_ (i := 2) (N := some 48) (v := ?_) (a' := ?_) #[true, true, true, false, false, false, false, false, false, false, false, false, false, false, false, false, false, false, false, false, false, false, false] rfl rfl (any_of HT_.out (by kernel_rfl)) (fun _ _ _ h => h) (Or.inl ⟨by rfl, ?_⟩) ?_ ?_
                                rotate_left
                                · intro w'
                                  go_simp
                                  with_reducible rfl
                                rotate_left
                                · simp only [Act.put, List.setIfInBounds_toArray, List.set_cons_zero, List.set_cons_succ, i64_w, i32_w]
                                  rfl
                                refine pure_ (i := 3) (N := some 49) (v := ?_) (a' := ?_) #[true, true, true, true, false, false, false, false, false, false, false, false, false, false, false, false, false, false, false, false, false, false, false] rfl rfl (any_of HT_.out (by kernel_rfl)) (fun _ _ _ h => h) (Or.inl ⟨by rfl, ?_⟩) ?_ ?_
                                rotate_left
                                · intro w'
                                  go_simp
                                  with_reducible rfl
                                rotate_left
                                · simp only [Act.put, List.setIfInBounds_toArray, List.set_cons_zero, List.set_cons_succ, i64_w, i32_w]
                                  rfl
                                refine pure_ (i := 4) (N := some 50) (v := ?_) (a' := ?_) #[true, true, true, true, true, false, false, false, false, false, false, false, false, false, false, false, false, false, false, false, false, false, false] rfl rfl (any_of HT_.out (by kernel_rfl)) (fun _ _ _ h => h) (Or.inl ⟨by rfl, ?_⟩) ?_ ?_
                                rotate_left
                                · intro w'
                                  go_simp
                                  with_reducible rfl
                                rotate_left
                                · simp only [Act.put, List.setIfInBounds_toArray, List.set_cons_zero, List.set_cons_succ, i64_w, i32_w]
                                  rfl
                                refine pure_ (i := 8) (N := some 54) (v := ?_) (a' := ?_) #[true, true, true, true, true, false, false, false, true, false, false, false, false, false, false, false, false, false, false, false, false, false, false] rfl rfl (any_of HT_.out (by kernel_rfl)) (fun _ _ _ h => h) (Or.inl ⟨by rfl, ?_⟩) ?_ ?_
                                rotate_left
                                · intro w'
                                  go_simp
                                  with_reducible rfl
                                rotate_left
                                · simp only [Act.put, List.setIfInBounds_toArray, List.set_cons_zero, List.set_cons_succ, i64_w, i32_w]
                                  rfl
                                refine pure_ (i := 9) (N := some 55) (v := ?_) (a' := ?_) #[true, true, true, true, true, false, false, false, true, true, false, false, false, false, false, false, false, false, false, false, false, false, false] rfl rfl (any_of HT_.out (by kernel_rfl)) (fun _ _ _ h => h) (Or.inl ⟨by rfl, ?_⟩) ?_ ?_
                                rotate_left
                                · intro w'
                                  go_simp
                                  with_reducible rfl
                                rotate_left
                                · simp only [Act.put, List.setIfInBounds_toArray, List.set_cons_zero, List.set_cons_succ, i64_w, i32_w]
                                  rfl
                                refine pure_ (i := 10) (N := some 56) (v := ?_) (a' := ?_) #[true, true, true, true, true, false, false, false, true, true, true, false, false, false, false, false, false, false, false, false, false, false, false] rfl rfl (any_of HT_.out (by kernel_rfl)) (fun _ _ _ h => h) (Or.inl ⟨by rfl, ?_⟩) ?_ ?_
                                rotate_left
                                · intro w'
                                  go_simp
                                  with_reducible rfl
                                rotate_left
                                · simp only [Act.put, List.setIfInBounds_toArray, List.set_cons_zero, List.set_cons_succ, i64_w, i32_w]
                                  rfl
                                refine pure_ (i := 11) (N := some 57) (v := ?_) (a' := ?_) #[true, true, true, true, true, false, false, false, true, true, true, true, false, false, false, false, false, false, false, false, false, false, false] rfl rfl (any_of HT_.out (by kernel_rfl)) (fun _ _ _ h => h) (Or.inl ⟨by rfl, ?_⟩) ?_ ?_
                                rotate_left
                                · intro w'
                                  go_simp
                                  with_reducible rfl
                                rotate_left
                                · simp only [Act.put, List.setIfInBounds_toArray, List.set_cons_zero, List.set_cons_succ, i64_w, i32_w]
                                  rfl
                                refine pure_ (i := 15) (N := some 61) (v := ?_) (a' := ?_) #[true, true, true, true, true, false, false, false, true, true, true, true, false, false, false, true, false, false, false, false, false, false, false] rfl rfl (any_of HT_.out (by kernel_rfl)) (fun _ _ _ h => h) (Or.inl ⟨by rfl, ?_⟩) ?_ ?_
                                rotate_left
                                · intro w'
                                  go_simp
                                  with_reducible rfl
                                rotate_left
                                · simp only [Act.put, List.setIfInBounds_toArray, List.set_cons_zero, List.set_cons_succ, i64_w, i32_w]
                                  rfl
                                refine pure_ (i := 16) (N := some 62) (v := ?_) (a' := ?_) #[true, true, true, true, true, false, false, false, true, true, true, true, false, false, false, true, true, false, false, false, false, false, false] rfl rfl (any_of HT_.out (by kernel_rfl)) (fun _ _ _ h => h) (Or.inl ⟨by rfl, ?_⟩) ?_ ?_
                                rotate_left
                                · intro w'
                                  go_simp
                                  with_reducible rfl
                                rotate_left
                                · simp only [Act.put, List.setIfInBounds_toArray, List.set_cons_zero, List.set_cons_succ, i64_w, i32_w]
                                  rfl
                                refine pure_ (i := 17) (N := some 63) (v := ?_) (a' := ?_) #[true, true, true, true, true, false, false, false, true, true, true, true, false, false, false, true, true, true, false, false, false, false, false] rfl rfl (any_of HT_.out (by kernel_rfl)) (fun _ _ _ h => h) (Or.inl ⟨by rfl, ?_⟩) ?_ ?_
                                rotate_left
                                · intro w'
                                  go_simp
                                  with_reducible rfl
                                rotate_left
                                · simp only [Act.put, List.setIfInBounds_toArray, List.set_cons_zero, List.set_cons_succ, i64_w, i32_w]
                                  rfl
                                refine pure_ (i := 18) (N := some 64) (v := ?_) (a' := ?_) #[true, true, true, true, true, false, false, false, true, true, true, true, false, false, false, true, true, true, true, false, false, false, false] rfl rfl (any_of HT_.out (by kernel_rfl)) (fun _ _ _ h => h) (Or.inl ⟨by rfl, ?_⟩) ?_ ?_
                                rotate_left
                                · intro w'
                                  go_simp
                                  with_reducible rfl
                                rotate_left
                                · simp only [Act.put, List.setIfInBounds_toArray, List.set_cons_zero, List.set_cons_succ, i64_w, i32_w]
                                  rfl
                                refine take_ (i := 5) (N := some 51) (v := ?_) (a' := ?_) #[true, true, true, true, true, true, false, false, true, true, true, true, false, false, false, true, true, true, true, false, false, false, false] rfl rfl (take_ofW HT_.out HW_.out (by kernel_rfl)) (fun _ _ _ h => h) (Or.inl ⟨by rfl, ?_⟩) hHeld ?_ ?_
                                rotate_left
                                · rintro w' ⟨s0, s1, s2, s3, s4, s5, s6, s7, s8, s9, s10, s11⟩
                                  go_simp
                                  with_reducible rfl
                                rotate_left
                                · simp only [Act.put, List.setIfInBounds_toArray, List.set_cons_zero, List.set_cons_succ, i64_w, i32_w]
                                  rfl
                                refine take_ (i := 12) (N := some 58) (v := ?_) (a' := ?_) #[true, true, true, true, true, true, false, false, true, true, true, true, true, false, false, true, true, true, true, false, false, false, false] rfl rfl (take_ofW HT_.out HW_.out (by kernel_rfl)) (fun _ _ _ h => h) (Or.inl ⟨by rfl, ?_⟩) hHeld ?_ ?_
                                rotate_left
                                · rintro w' ⟨s0, s1, s2, s3, s4, s5, s6, s7, s8, s9, s10, s11⟩
                                  go_simp
                                  with_reducible rfl
                                rotate_left
                                · simp only [Act.put, List.setIfInBounds_toArray, List.set_cons_zero, List.set_cons_succ, i64_w, i32_w]
                                  rfl
                                refine take_ (i := 19) (N := some 65) (v := ?_) (a' := ?_) #[true, true, true, true, true, true, false, false, true, true, true, true, true, false, false, true, true, true, true, true, false, false, false] rfl rfl (take_ofW HT_.out HW_.out (by kernel_rfl)) (fun _ _ _ h => h) (Or.inl ⟨by rfl, ?_⟩) hHeld ?_ ?_
                                rotate_left
                                · rintro w' ⟨s0, s1, s2, s3, s4, s5, s6, s7, s8, s9, s10, s11⟩
                                  go_simp
                                  with_reducible rfl
                                rotate_left
                                · simp only [Act.put, List.setIfInBounds_toArray, List.set_cons_zero, List.set_cons_succ, i64_w, i32_w]
                                  rfl
                                refine one_ (i := 6) (N := some 52) #[true, true, true, true, true, true, true, false, true, true, true, true, true, false, false, true, true, true, true, true, false, false, false] rfl rfl (one_of HT_.out (by kernel_rfl)) (by decide) (fun K hK => ?_)
                                refine goes_ Try.func23 (by kernel_rfl) rfl #[.int .i64 ((rd_T42 t355 x9_2).f0), .int .i64 4] (by rfl) rfl rfl (by (try simp only [List.map_toArray, List.map_cons, List.map_nil]); first | done | rfl | (simp only [List.length_drop, List.length_take]; rfl)) ?_
                                with_reducible refine (vinculumref03_Bytes.calls k2 ((rd_T42 t355 x9_2).f0) 4 t363 _ A22.out).mono ?_
                                rintro e w29 ⟨rfl, hb⟩
                                have HS0_ := (hb.cell (World.block_lt_of_cell? _ _ (hHeld.1))).trans (hHeld.1)
                                have HS1_ := (hb.cell (World.block_lt_of_cell? _ _ (hHeld.2.1))).trans (hHeld.2.1)
                                have HS2_ := (hb.cell (World.block_lt_of_cell? _ _ (hHeld.2.2.1))).trans (hHeld.2.2.1)
                                have HS3_ := (hb.cell (World.block_lt_of_cell? _ _ (hHeld.2.2.2.1))).trans (hHeld.2.2.2.1)
                                have HS4_ := (hb.cell (World.block_lt_of_cell? _ _ (hHeld.2.2.2.2.1))).trans (hHeld.2.2.2.2.1)
                                have HS5_ := (hb.cell (World.block_lt_of_cell? _ _ (hHeld.2.2.2.2.2.1))).trans (hHeld.2.2.2.2.2.1)
                                have HS6_ := (hb.cell (World.block_lt_of_cell? _ _ (hHeld.2.2.2.2.2.2.1))).trans (hHeld.2.2.2.2.2.2.1)
                                have HS7_ := (hb.cell (World.block_lt_of_cell? _ _ (hHeld.2.2.2.2.2.2.2.1))).trans (hHeld.2.2.2.2.2.2.2.1)
                                have HS8_ := (hb.cell (World.block_lt_of_cell? _ _ (hHeld.2.2.2.2.2.2.2.2.1))).trans (hHeld.2.2.2.2.2.2.2.2.1)
                                have HS9_ := (hb.cell (World.block_lt_of_cell? _ _ (hHeld.2.2.2.2.2.2.2.2.2.1))).trans (hHeld.2.2.2.2.2.2.2.2.2.1)
                                have HS10_ := (hb.cell (World.block_lt_of_cell? _ _ (hHeld.2.2.2.2.2.2.2.2.2.2.1))).trans (hHeld.2.2.2.2.2.2.2.2.2.2.1)
                                have HS11_ := (hb.cell (World.block_lt_of_cell? _ _ (hHeld.2.2.2.2.2.2.2.2.2.2.2))).trans (hHeld.2.2.2.2.2.2.2.2.2.2.2)
                                refine ⟨_, rfl, ?_⟩
                                have n0_ := Aside0.mk (Kd.R_below (by (with_reducible repeat (first | apply Kd.R_alloc | apply Kd.R_drewN | apply Kd.R_drew)); exact HO_6.out) hb)
                                have n1_ := Aside0.mk (below_step (by repeat (first | (with_reducible first | exact HB.out | apply below_alloc | apply pw_below_drewN | apply below_drew1) | exact HB.out)) hb)
                                clear HO_6
                                clear HB
                                have HO_6 := n0_
                                have HB := n1_
                                clear n0_ n1_
                                (try clear hb)
                                (try clear hb2)
                                (try clear hk)
                                (try clear hi)
                                refine hK.out _ _ ⟨HS0_, HS1_, HS2_, HS3_, HS4_, HS5_, HS6_, HS7_, HS8_, HS9_, HS10_, HS11_⟩ (fun hHeld => ?_)
                                clear hK K
                                refine norm_ (a' := ?_) ?_ ?_
                                rotate_left
                                · show Act.put _ (some 52) _ = _
                                  simp only [Act.put, List.setIfInBounds_toArray, List.set_cons_zero, List.set_cons_succ, i64_w, i32_w]
                                  rfl
                                refine pure_ (i := 7) (N := some 53) (v := ?_) (a' := ?_) #[true, true, true, true, true, true, true, true, true, true, true, true, true, false, false, true, true, true, true, true, false, false, false] rfl rfl (any_of HT_.out (by kernel_rfl)) (fun _ _ _ h => h) (Or.inl ⟨by rfl, ?_⟩) ?_ ?_
                                rotate_left
                                · intro w'
                                  go_simp
                                  with_reducible rfl
                                rotate_left
                                · simp only [Act.put, List.setIfInBounds_toArray, List.set_cons_zero, List.set_cons_succ, i64_w, i32_w]
                                  rfl
                                refine one_ (i := 13) (N := some 59) #[true, true, true, true, true, true, true, true, true, true, true, true, true, true, false, true, true, true, true, true, false, false, false] rfl rfl (one_of HT_.out (by kernel_rfl)) (by decide) (fun K hK => ?_)
                                refine goes_ Try.func23 (by kernel_rfl) rfl #[.int .i64 ((rd_T42 t355 x9_2).f1), .int .i64 4] (by rfl) rfl rfl (by (try simp only [List.map_toArray, List.map_cons, List.map_nil]); first | done | rfl | (simp only [List.length_drop, List.length_take]; rfl)) ?_
                                with_reducible refine (vinculumref03_Bytes.calls k2 ((rd_T42 t355 x9_2).f1) 4 t365 _ A24.out).mono ?_
                                rintro e w30 ⟨rfl, hb⟩
                                have HS0_ := (hb.cell (World.block_lt_of_cell? _ _ (hHeld.1))).trans (hHeld.1)
                                have HS1_ := (hb.cell (World.block_lt_of_cell? _ _ (hHeld.2.1))).trans (hHeld.2.1)
                                have HS2_ := (hb.cell (World.block_lt_of_cell? _ _ (hHeld.2.2.1))).trans (hHeld.2.2.1)
                                have HS3_ := (hb.cell (World.block_lt_of_cell? _ _ (hHeld.2.2.2.1))).trans (hHeld.2.2.2.1)
                                have HS4_ := (hb.cell (World.block_lt_of_cell? _ _ (hHeld.2.2.2.2.1))).trans (hHeld.2.2.2.2.1)
                                have HS5_ := (hb.cell (World.block_lt_of_cell? _ _ (hHeld.2.2.2.2.2.1))).trans (hHeld.2.2.2.2.2.1)
                                have HS6_ := (hb.cell (World.block_lt_of_cell? _ _ (hHeld.2.2.2.2.2.2.1))).trans (hHeld.2.2.2.2.2.2.1)
                                have HS7_ := (hb.cell (World.block_lt_of_cell? _ _ (hHeld.2.2.2.2.2.2.2.1))).trans (hHeld.2.2.2.2.2.2.2.1)
                                have HS8_ := (hb.cell (World.block_lt_of_cell? _ _ (hHeld.2.2.2.2.2.2.2.2.1))).trans (hHeld.2.2.2.2.2.2.2.2.1)
                                have HS9_ := (hb.cell (World.block_lt_of_cell? _ _ (hHeld.2.2.2.2.2.2.2.2.2.1))).trans (hHeld.2.2.2.2.2.2.2.2.2.1)
                                have HS10_ := (hb.cell (World.block_lt_of_cell? _ _ (hHeld.2.2.2.2.2.2.2.2.2.2.1))).trans (hHeld.2.2.2.2.2.2.2.2.2.2.1)
                                have HS11_ := (hb.cell (World.block_lt_of_cell? _ _ (hHeld.2.2.2.2.2.2.2.2.2.2.2))).trans (hHeld.2.2.2.2.2.2.2.2.2.2.2)
                                refine ⟨_, rfl, ?_⟩
                                have n0_ := Aside0.mk (Kd.R_below (by (with_reducible repeat (first | apply Kd.R_alloc | apply Kd.R_drewN | apply Kd.R_drew)); exact HO_6.out) hb)
                                have n1_ := Aside0.mk (below_step (by repeat (first | (with_reducible first | exact HB.out | apply below_alloc | apply pw_below_drewN | apply below_drew1) | exact HB.out)) hb)
                                clear HO_6
                                clear HB
                                have HO_6 := n0_
                                have HB := n1_
                                clear n0_ n1_
                                (try clear hb)
                                (try clear hb2)
                                (try clear hk)
                                (try clear hi)
                                refine hK.out _ _ ⟨HS0_, HS1_, HS2_, HS3_, HS4_, HS5_, HS6_, HS7_, HS8_, HS9_, HS10_, HS11_⟩ (fun hHeld => ?_)
                                clear hK K
                                refine norm_ (a' := ?_) ?_ ?_
                                rotate_left
                                · show Act.put _ (some 59) _ = _
                                  simp only [Act.put, List.setIfInBounds_toArray, List.set_cons_zero, List.set_cons_succ, i64_w, i32_w]
                                  rfl
                                refine pure_ (i := 14) (N := some 60) (v := ?_) (a' := ?_) #[true, true, true, true, true, true, true, true, true, true, true, true, true, true, true, true, true, true, true, true, false, false, false] rfl rfl (any_of HT_.out (by kernel_rfl)) (fun _ _ _ h => h) (Or.inl ⟨by rfl, ?_⟩) ?_ ?_
                                rotate_left
                                · intro w'
                                  go_simp
                                  with_reducible rfl
                                rotate_left
                                · simp only [Act.put, List.setIfInBounds_toArray, List.set_cons_zero, List.set_cons_succ, i64_w, i32_w]
                                  rfl
                                refine one_ (i := 20) (N := some 66) #[true, true, true, true, true, true, true, true, true, true, true, true, true, true, true, true, true, true, true, true, true, false, false] rfl rfl (one_of HT_.out (by kernel_rfl)) (by decide) (fun K hK => ?_)
                                refine goes_ Try.func23 (by kernel_rfl) rfl #[.int .i64 ((rd_T42 t355 x9_2).f2), .int .i64 4] (by rfl) rfl rfl (by (try simp only [List.map_toArray, List.map_cons, List.map_nil]); first | done | rfl | (simp only [List.length_drop, List.length_take]; rfl)) ?_
                                with_reducible refine (vinculumref03_Bytes.calls k2 ((rd_T42 t355 x9_2).f2) 4 t367 _ A26.out).mono ?_
                                rintro e w31 ⟨rfl, hb⟩
                                have HS0_ := (hb.cell (World.block_lt_of_cell? _ _ (hHeld.1))).trans (hHeld.1)
                                have HS1_ := (hb.cell (World.block_lt_of_cell? _ _ (hHeld.2.1))).trans (hHeld.2.1)
                                have HS2_ := (hb.cell (World.block_lt_of_cell? _ _ (hHeld.2.2.1))).trans (hHeld.2.2.1)
                                have HS3_ := (hb.cell (World.block_lt_of_cell? _ _ (hHeld.2.2.2.1))).trans (hHeld.2.2.2.1)
                                have HS4_ := (hb.cell (World.block_lt_of_cell? _ _ (hHeld.2.2.2.2.1))).trans (hHeld.2.2.2.2.1)
                                have HS5_ := (hb.cell (World.block_lt_of_cell? _ _ (hHeld.2.2.2.2.2.1))).trans (hHeld.2.2.2.2.2.1)
                                have HS6_ := (hb.cell (World.block_lt_of_cell? _ _ (hHeld.2.2.2.2.2.2.1))).trans (hHeld.2.2.2.2.2.2.1)
                                have HS7_ := (hb.cell (World.block_lt_of_cell? _ _ (hHeld.2.2.2.2.2.2.2.1))).trans (hHeld.2.2.2.2.2.2.2.1)
                                have HS8_ := (hb.cell (World.block_lt_of_cell? _ _ (hHeld.2.2.2.2.2.2.2.2.1))).trans (hHeld.2.2.2.2.2.2.2.2.1)
                                have HS9_ := (hb.cell (World.block_lt_of_cell? _ _ (hHeld.2.2.2.2.2.2.2.2.2.1))).trans (hHeld.2.2.2.2.2.2.2.2.2.1)
                                have HS10_ := (hb.cell (World.block_lt_of_cell? _ _ (hHeld.2.2.2.2.2.2.2.2.2.2.1))).trans (hHeld.2.2.2.2.2.2.2.2.2.2.1)
                                have HS11_ := (hb.cell (World.block_lt_of_cell? _ _ (hHeld.2.2.2.2.2.2.2.2.2.2.2))).trans (hHeld.2.2.2.2.2.2.2.2.2.2.2)
                                refine ⟨_, rfl, ?_⟩
                                have n0_ := Aside0.mk (Kd.R_below (by (with_reducible repeat (first | apply Kd.R_alloc | apply Kd.R_drewN | apply Kd.R_drew)); exact HO_6.out) hb)
                                have n1_ := Aside0.mk (below_step (by repeat (first | (with_reducible first | exact HB.out | apply below_alloc | apply pw_below_drewN | apply below_drew1) | exact HB.out)) hb)
                                clear HO_6
                                clear HB
                                have HO_6 := n0_
                                have HB := n1_
                                clear n0_ n1_
                                (try clear hb)
                                (try clear hb2)
                                (try clear hk)
                                (try clear hi)
                                refine hK.out _ _ ⟨HS0_, HS1_, HS2_, HS3_, HS4_, HS5_, HS6_, HS7_, HS8_, HS9_, HS10_, HS11_⟩ (fun hHeld => ?_)
                                clear hK K
                                refine norm_ (a' := ?_) ?_ ?_
                                rotate_left
                                · show Act.put _ (some 66) _ = _
                                  simp only [Act.put, List.setIfInBounds_toArray, List.set_cons_zero, List.set_cons_succ, i64_w, i32_w]
                                  rfl
                                refine pure_ (i := 21) (N := some 67) (v := ?_) (a' := ?_) #[true, true, true, true, true, true, true, true, true, true, true, true, true, true, true, true, true, true, true, true, true, true, false] rfl rfl (any_of HT_.out (by kernel_rfl)) (fun _ _ _ h => h) (Or.inl ⟨by rfl, ?_⟩) ?_ ?_
                                rotate_left
                                · intro w'
                                  go_simp
                                  with_reducible rfl
                                rotate_left
                                · simp only [Act.put, List.setIfInBounds_toArray, List.set_cons_zero, List.set_cons_succ, i64_w, i32_w]
                                  rfl
                                refine pure_ (i := 22) (N := some 8) (v := ?_) (a' := ?_) #[true, true, true, true, true, true, true, true, true, true, true, true, true, true, true, true, true, true, true, true, true, true, true] rfl rfl (any_of HT_.out (by kernel_rfl)) (fun _ _ _ h => h) (Or.inl ⟨by rfl, ?_⟩) ?_ ?_
                                rotate_left
                                · intro w'
                                  go_simp
                                  with_reducible rfl
                                rotate_left
                                · simp only [Act.put, List.setIfInBounds_toArray, List.set_cons_zero, List.set_cons_succ, i64_w, i32_w]
                                  rfl
                                refine done_ (done_of HT_.out (by kernel_rfl)) ?_
                                try go_wp2
                                go_roundg k2
                                case measure => have := HJ2.out; have := HK2.out; omega
                                case rel => exact ⟨(((x8_2 ++ t363) ++ t365) ++ t367), (wrap64 (x9_2 + 1)), (by first | rfl | (simp; done) | (simp [*]; done)), (by first | rfl | (simp; done) | (simp [*]; done)), H', ⟨by have := HJ2.out; have := HK2.out; omega⟩, ⟨by (with_reducible repeat (first | apply Kd.R_alloc | apply Kd.R_drewN | apply Kd.R_drew)); exact HO_6.out⟩, ⟨by repeat (first | (with_reducible first | exact HB.out | apply below_alloc | apply pw_below_drewN | apply below_drew1) | exact HB.out)⟩⟩
                              · rw [if_neg c27] at H
                                exact absurd H (by simp)
                            · rw [if_neg c25] at H
                              exact absurd H (by simp)
                          · rw [if_neg c23] at H
                            exact absurd H (by simp)
                        · rw [if_neg c21] at H
                          exact absurd H (by simp)
                      · rw [if_neg c20] at H
                        have c20b0 : decide (x9_2 < (t355.length : Int)) = false := decide_eq_false c20
                        clear c20
                        simp only [Option.some.injEq, Prod.mk.injEq] at H
                        obtain ⟨rfl, rfl⟩ := H
                        go_wp2
                        go_ret2
                        exact ⟨by first | rfl | (simp [errW_none, errW_some] <;> rfl) | (simp [*, errW_none, errW_some] <;> rfl), by repeat (first | (with_reducible first | exact HB.out | apply below_alloc | apply pw_below_drewN | apply below_drew1) | exact HB.out)⟩
                · rw [if_neg c14] at H
                  exact absurd H (by simp)
              · rw [if_neg c12] at H
                exact absurd H (by simp)
            · rw [if_neg c11] at H
              exact absurd H (by simp)
          · rw [if_neg c9] at H
            exact absurd H (by simp)
        · rw [if_neg c7] at H
          have c7b0 : (t356 == 0) = false := beq_eq_false_iff_ne.mpr c7
          have c7b1 : (t356 != 0) = true := bne_iff_ne.mpr c7
          simp only [Option.some.injEq, Prod.mk.injEq] at H
          obtain ⟨rfl, rfl⟩ := H
          go_wp2_with (first | ((with_reducible refine gate_callee (f := 31) rfl ?_); refine goesL_ (some 20) rfl rfl Try.func31 (by kernel_rfl) rfl #[.slice A0 l0.length c0, .int .i64 (wrap64 (13 - a1))] rfl (by (try simp only [List.map_toArray, List.map_cons, List.map_nil]); first | done | rfl | (simp only [List.length_drop, List.length_take]; rfl)) ?_; (with_reducible refine (vinculumref10_Split.calls kj2 _ _ l0 (wrap64 (13 - a1)) t355 t356 _ ?side1 ?side2 A6.out).mono ?_); (case side1 => repeat (first | exact (Kd.C_below HR0.out HB.out) | (with_reducible refine Kd.C_alloc ?_ _) | (with_reducible refine Kd.C_drewN ?_ _) | (with_reducible refine Kd.C_drew ?_))); (case side2 => exact HC0.out); rintro e w32 ⟨v357, rfl, ho0, hb⟩; refine ⟨_, rfl, ?_⟩; have n0_ := Aside0.mk (Kd.R_lower ho0 (below_size (by repeat (first | (with_reducible first | exact HB.out | apply below_alloc | apply pw_below_drewN | apply below_drew1) | exact HB.out)))); have n1_ := Aside0.mk (below_step (by repeat (first | (with_reducible first | exact HB.out | apply below_alloc | apply pw_below_drewN | apply below_drew1) | exact HB.out)) hb); clear HB; have HO358 := n0_; have HB := n1_; clear n0_ n1_; (try clear hb); (try clear hb2); (try clear hk); (try clear hi); (try clear ho0)))
          go_ret2
          exact ⟨by first | rfl | (simp [errW_none, errW_some] <;> rfl) | (simp [*, errW_none, errW_some] <;> rfl), by repeat (first | (with_reducible first | exact HB.out | apply below_alloc | apply pw_below_drewN | apply below_drew1) | exact HB.out)⟩
end Go.Proofs.Ytgifenlfklbdgaa.P
end
section
namespace Go.Proofs.Ytgifenlfklbdgaa.P
open Go.RowKit Go.Proofs.YtgifenlfklbdgaaW.PrintWords Go.Proofs.YtgifenlfklbdgaaW.PrintLast Go.Proofs.YtgifenlfklbdgaaW.PrintMore
attribute [local go_sem] max2_int min2_int max_two min_two max_three min_three max_four min_four
set_option linter.unusedVariables false
set_option linter.unusedSimpArgs false
def vinculumlaw10_front.f (a0 : ByteArray) (a1 : Int) : Option (ByteArray) := if a1 < 0 then (some a0) else (if a1 > (a0.size : Int) then (some a0) else (if 0 ≤ a1 then (if a1 ≤ (a0.size : Int) then (some (a0.extract 0 (a1 : Int).toNat)) else (none)) else (none)))
set_option maxHeartbeats 8000000 in
set_option maxRecDepth 100000 in
theorem vinculumlaw10_front.calls (a0 : ByteArray) (a1 : Int) (r : ByteArray) (w : World) (h : vinculumlaw10_front.f a0 a1 = some r) :
    Calls Try.prog 71 #[.string a0, .int .i64 a1] w fun e w' => e = .returned (.string r) ∧ Drawn0 w w' := by
  have H : (if a1 < 0 then (some a0) else (if a1 > (a0.size : Int) then (some a0) else (if 0 ≤ a1 then (if a1 ≤ (a0.size : Int) then (some (a0.extract 0 (a1 : Int).toNat)) else (none)) else (none)))) = some r := h
  clear h
  by_cases c3 : a1 < 0
  · rw [if_pos c3] at H
    have c3b0 : decide (a1 < 0) = true := decide_eq_true c3
    clear c3
    obtain rfl := Option.some.inj H
    go_enter Try.func71, Try.ntmps71
    go_wp2
    go_ret
    exact ⟨by first | rfl | (simp; done) | (simp [*]; done), by repeat (first | exact Drawn0.refl _ | apply Drawn0.step)⟩
  · rw [if_neg c3] at H
    have c3b0 : decide (a1 < 0) = false := decide_eq_false c3
    clear c3
    by_cases c4 : a1 > (a0.size : Int)
    · rw [if_pos c4] at H
      have c4b0 : decide ((a0.size : Int) < a1) = true := decide_eq_true c4
      clear c4
      obtain rfl := Option.some.inj H
      go_enter Try.func71, Try.ntmps71
      go_wp2
      go_ret
      exact ⟨by first | rfl | (simp; done) | (simp [*]; done), by repeat (first | exact Drawn0.refl _ | apply Drawn0.step)⟩
    · rw [if_neg c4] at H
      have c4b0 : decide ((a0.size : Int) < a1) = false := decide_eq_false c4
      clear c4
      by_cases c5 : 0 ≤ a1
      · rw [if_pos c5] at H
        have c5b0 := eq_true c5
        have c5b1 : decide (0 ≤ a1) = true := decide_eq_true c5
        clear c5
        by_cases c6 : a1 ≤ (a0.size : Int)
        · rw [if_pos c6] at H
          have c6b0 := eq_true c6
          have c6b1 : decide (a1 ≤ (a0.size : Int)) = true := decide_eq_true c6
          clear c6
          obtain rfl := Option.some.inj H
          go_enter Try.func71, Try.ntmps71
          go_wp2
          go_ret
          exact ⟨by first | rfl | (simp; done) | (simp [*]; done), by repeat (first | exact Drawn0.refl _ | apply Drawn0.step)⟩
        · rw [if_neg c6] at H
          exact absurd H (by simp)
      · rw [if_neg c5] at H
        exact absurd H (by simp)
end Go.Proofs.Ytgifenlfklbdgaa.P
end
