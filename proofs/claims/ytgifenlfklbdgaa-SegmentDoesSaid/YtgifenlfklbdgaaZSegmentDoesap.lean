/- A part of the proof of the law SegmentDoes: the words, contracts and plain facts that it needs, no more. Each says its own condition. -/
import Derived.Test.YtgifenlfklbdgaaZSegmentDoesg
namespace Go.Proofs.Ytgifenlfklbdgaa.P
open Go.RowKit Go.Proofs.YtgifenlfklbdgaaW.PrintWords Go.Proofs.YtgifenlfklbdgaaW.PrintLast Go.Proofs.YtgifenlfklbdgaaW.PrintMore
attribute [local go_sem] max2_int min2_int max_two min_two max_three min_three max_four min_four
set_option linter.unusedVariables false
set_option linter.unusedSimpArgs false
mutual
def vinculumref09_Short.l0 : Nat → List (S42) → Int → Int → Option (Bool)
  | 0, _, _, _ => none
  | k + 1, x0, x3, x4 => if x4 < (x0.length : Int) then (vinculumref09_Short.j1 k x0 x3 x4 (decide ((x0.length : Int) ≤ 60))) else (vinculumref09_Short.j1 k x0 x3 x4 false)
def vinculumref09_Short.j1 : Nat → List (S42) → Int → Int → Bool → Option (Bool)
  | 0, _, _, _, _ => none
  | k + 1, x0, x3, x4, x13 => if x13 = true then (if 0 ≤ x4 then (if x4 < (x0.length : Int) then (if (wrap64 (((rd_T42 x0 x4).f1) - ((rd_T42 x0 x4).f0))) > 40000 then (vinculumref09_Short.l0 k x0 x3 (wrap64 (x4 + 1))) else (vinculumref09_Short.l0 k x0 (wrap64 ((wrap64 (x3 + ((rd_T42 x0 x4).f1))) - ((rd_T42 x0 x4).f0))) (wrap64 (x4 + 1)))) else (none)) else (none)) else (if (x0.length : Int) ≤ 60 then (some (decide (x3 ≤ 3000))) else (some false))
end
def vinculumref09_Short.f (k : Nat) (l0 : List (S42)) : Option (Bool) := vinculumref09_Short.l0 k l0 0 0
set_option maxHeartbeats 8000000 in
set_option maxRecDepth 100000 in
theorem vinculumref09_Short.calls (k : Nat) (A0 : Option Addr) (c0 : Nat) (l0 : List (S42)) (r : Bool) (w : World) (hr0 : Kd.C k42 w A0 l0.length l0) (hc0 : l0.length ≤ c0) (h : vinculumref09_Short.f k l0 = some r) :
    Calls Try.prog 48 #[.slice A0 l0.length c0] w fun e w' => e = .returned (.bool r) ∧ Drawn0 w w' := by
  have HR0 := Aside0.mk hr0
  have HC0 := Aside0.mk hc0
  clear hr0 hc0
  have H : (vinculumref09_Short.l0 k l0 0 0) = some r := h
  clear h
  have H' := Aside0.mk H
  clear H
  go_enter Try.func48, Try.ntmps48
  go_wp2
  repeat (go_quiet (fail); try go_wp2)
  go_loopg [3, 4] k (fun kq v3 v4 w' => ∃ (x3_1 : Int) (x4_1 : Int), v3 = .int .i64 x3_1 ∧ v4 = .int .i64 x4_1 ∧ Aside0 (vinculumref09_Short.l0 kq l0 x3_1 x4_1 = some r) ∧ Aside0 (kq ≤ k) ∧ Drawn0 w w')
  case atStart => exact ⟨(0), (0), (by first | rfl | (simp; done) | (simp [*]; done)), (by first | rfl | (simp; done) | (simp [*]; done)), H', ⟨Nat.le_refl _⟩, by repeat (first | exact Drawn0.refl _ | apply Drawn0.step)⟩
  case round =>
    clear H'
    obtain ⟨x3_1, x4_1, rfl, rfl, HA, HK1, ⟨m1, rfl⟩⟩ := hrel
    cases gk with
    | zero => exact absurd HA.out (by simp [vinculumref09_Short.l0])
    | succ k1 =>
      have H := HA.out
      clear HA
      simp only [vinculumref09_Short.l0] at H
      have HC2 := Aside0.mk H
      clear H
      go_upto_region 3 with (fail)
      repeat (go_quiet (fail); go_upto_region 3 with (fail))
      go_cut [13] (fun v13 wc => ∃ (kq : Nat) (x13_1 : Bool), v13 = .bool x13_1 ∧ Aside0 (vinculumref09_Short.j1 kq l0 x3_1 x4_1 x13_1 = some r) ∧ Aside0 (kq ≤ k1) ∧ Drawn0 w wc)
      case first =>
        have H := HC2.out
        clear HC2
        by_cases c3 : x4_1 < (l0.length : Int)
        · rw [if_pos c3] at H
          have c3b0 : decide (x4_1 < (l0.length : Int)) = true := decide_eq_true c3
          clear c3
          (first | rw [c3b0] | (simp only [i64_w, i32_w]; rw [c3b0]) | skip)
          have H' := Aside0.mk H
          clear H
          go_wp2
          repeat (go_quiet (fail); try go_wp2)
          go_meet
          case rel => exact ⟨_, (decide ((l0.length : Int) ≤ 60)), (by first | rfl | (simp; done) | (simp [*]; done)), H', ⟨by have := HK1.out; first | omega | exact Nat.le_refl _⟩, by repeat (first | exact Drawn0.refl _ | apply Drawn0.step)⟩
        · rw [if_neg c3] at H
          have c3b0 : decide (x4_1 < (l0.length : Int)) = false := decide_eq_false c3
          clear c3
          (first | rw [c3b0] | (simp only [i64_w, i32_w]; rw [c3b0]) | skip)
          have H' := Aside0.mk H
          clear H
          go_wp2
          repeat (go_quiet (fail); try go_wp2)
          go_meet
          case rel => exact ⟨_, (false), (by first | rfl | (simp; done) | (simp [*]; done)), H', ⟨by have := HK1.out; first | omega | exact Nat.le_refl _⟩, by repeat (first | exact Drawn0.refl _ | apply Drawn0.step)⟩
      case rest =>
        clear HC2
        try clear p2
        try clear c3
        try clear c3b0
        obtain ⟨kq, x13_1, rfl, HA, HJ1, ⟨mc1, rfl⟩⟩ := hcut
        cases kq with
        | zero => exact absurd HA.out (by simp [vinculumref09_Short.j1])
        | succ kj1 =>
          have H := HA.out
          clear HA
          simp only [vinculumref09_Short.j1] at H
          by_cases c4 : x13_1 = true
          · subst c4
            have H1 : (if 0 ≤ x4_1 then (if x4_1 < (l0.length : Int) then (if (wrap64 (((rd_T42 l0 x4_1).f1) - ((rd_T42 l0 x4_1).f0))) > 40000 then (vinculumref09_Short.l0 kj1 l0 x3_1 (wrap64 (x4_1 + 1))) else (vinculumref09_Short.l0 kj1 l0 (wrap64 ((wrap64 (x3_1 + ((rd_T42 l0 x4_1).f1))) - ((rd_T42 l0 x4_1).f0))) (wrap64 (x4_1 + 1)))) else (none)) else (none)) = some r := by rw [if_pos rfl] at H; exact H
            clear H
            have H := H1
            clear H1
            by_cases c5 : 0 ≤ x4_1
            · rw [if_pos c5] at H
              have c5b0 : decide (0 ≤ x4_1) = true := decide_eq_true c5
              clear c5
              by_cases c6 : x4_1 < (l0.length : Int)
              · rw [if_pos c6] at H
                have c6b0 : decide (x4_1 < (l0.length : Int)) = true := decide_eq_true c6
                clear c6
                by_cases c7 : (wrap64 (((rd_T42 l0 x4_1).f1) - ((rd_T42 l0 x4_1).f0))) > 40000
                · rw [if_pos c7] at H
                  have c7b0 : decide (40000 < (wrap64 (((rd_T42 l0 x4_1).f1) - ((rd_T42 l0 x4_1).f0)))) = true := decide_eq_true c7
                  clear c7
                  have H' := Aside0.mk H
                  clear H
                  have p120 : 0 ≤ (x4_1 : Int) := of_decide_eq_true (by first | (with_reducible assumption) | assumption)
                  have q120 : x4_1 < (l0.length : Int) := of_decide_eq_true (by first | (with_reducible assumption) | assumption)
                  obtain ⟨ad120, e120, hx120_0, hx120_1, hx120_2, hx120_3⟩ := at_T42 HR0.out x4_1 p120 q120
                  cases e120
                  replace p120 := eq_true p120
                  replace q120 := eq_true q120
                  have p121 : 0 ≤ (x4_1 : Int) := of_decide_eq_true (by first | (with_reducible assumption) | assumption)
                  have q121 : x4_1 < (l0.length : Int) := of_decide_eq_true (by first | (with_reducible assumption) | assumption)
                  obtain ⟨ad121, e121, hx121_0, hx121_1, hx121_2, hx121_3⟩ := at_T42 HR0.out x4_1 p121 q121
                  obtain rfl : ad120 = ad121 := (by injection e121)
                  replace p121 := eq_true p121
                  replace q121 := eq_true q121
                  go_wp2
                  repeat (go_quiet (fail); try go_wp2)
                  go_roundg kj1
                  case measure => have := HK1.out; have := HJ1.out; omega
                  case rel => exact ⟨(x3_1), (wrap64 (x4_1 + 1)), (by first | rfl | (simp; done) | (simp [*]; done)), (by first | rfl | (simp; done) | (simp [*]; done)), H', ⟨by have := HK1.out; have := HJ1.out; omega⟩, by repeat (first | exact Drawn0.refl _ | apply Drawn0.step)⟩
                · rw [if_neg c7] at H
                  have c7b0 : decide (40000 < (wrap64 (((rd_T42 l0 x4_1).f1) - ((rd_T42 l0 x4_1).f0)))) = false := decide_eq_false c7
                  clear c7
                  have H' := Aside0.mk H
                  clear H
                  have p120 : 0 ≤ (x4_1 : Int) := of_decide_eq_true (by first | (with_reducible assumption) | assumption)
                  have q120 : x4_1 < (l0.length : Int) := of_decide_eq_true (by first | (with_reducible assumption) | assumption)
                  obtain ⟨ad120, e120, hx120_0, hx120_1, hx120_2, hx120_3⟩ := at_T42 HR0.out x4_1 p120 q120
                  cases e120
                  replace p120 := eq_true p120
                  replace q120 := eq_true q120
                  have p121 : 0 ≤ (x4_1 : Int) := of_decide_eq_true (by first | (with_reducible assumption) | assumption)
                  have q121 : x4_1 < (l0.length : Int) := of_decide_eq_true (by first | (with_reducible assumption) | assumption)
                  obtain ⟨ad121, e121, hx121_0, hx121_1, hx121_2, hx121_3⟩ := at_T42 HR0.out x4_1 p121 q121
                  obtain rfl : ad120 = ad121 := (by injection e121)
                  replace p121 := eq_true p121
                  replace q121 := eq_true q121
                  have p122 : 0 ≤ (x4_1 : Int) := of_decide_eq_true (by first | (with_reducible assumption) | assumption)
                  have q122 : x4_1 < (l0.length : Int) := of_decide_eq_true (by first | (with_reducible assumption) | assumption)
                  obtain ⟨ad122, e122, hx122_0, hx122_1, hx122_2, hx122_3⟩ := at_T42 HR0.out x4_1 p122 q122
                  obtain rfl : ad120 = ad122 := (by injection e122)
                  replace p122 := eq_true p122
                  replace q122 := eq_true q122
                  have p123 : 0 ≤ (x4_1 : Int) := of_decide_eq_true (by first | (with_reducible assumption) | assumption)
                  have q123 : x4_1 < (l0.length : Int) := of_decide_eq_true (by first | (with_reducible assumption) | assumption)
                  obtain ⟨ad123, e123, hx123_0, hx123_1, hx123_2, hx123_3⟩ := at_T42 HR0.out x4_1 p123 q123
                  obtain rfl : ad120 = ad123 := (by injection e123)
                  replace p123 := eq_true p123
                  replace q123 := eq_true q123
                  go_wp2
                  repeat (go_quiet (fail); try go_wp2)
                  go_roundg kj1
                  case measure => have := HK1.out; have := HJ1.out; omega
                  case rel => exact ⟨(wrap64 ((wrap64 (x3_1 + ((rd_T42 l0 x4_1).f1))) - ((rd_T42 l0 x4_1).f0))), (wrap64 (x4_1 + 1)), (by first | rfl | (simp; done) | (simp [*]; done)), (by first | rfl | (simp; done) | (simp [*]; done)), H', ⟨by have := HK1.out; have := HJ1.out; omega⟩, by repeat (first | exact Drawn0.refl _ | apply Drawn0.step)⟩
              · rw [if_neg c6] at H
                exact absurd H (by simp)
            · rw [if_neg c5] at H
              exact absurd H (by simp)
          · replace c4 := Bool.eq_false_iff.mpr c4
            subst c4
            have H1 : (if (l0.length : Int) ≤ 60 then (some (decide (x3_1 ≤ 3000))) else (some false)) = some r := by rw [if_neg (show ¬ (false = true) by decide)] at H; exact H
            clear H
            have H := H1
            clear H1
            by_cases c8 : (l0.length : Int) ≤ 60
            · rw [if_pos c8] at H
              have c8b0 : decide ((l0.length : Int) ≤ 60) = true := decide_eq_true c8
              have c8b1 : decide (l0.length ≤ 60) = true := decide_eq_true (by omega)
              clear c8
              obtain rfl := Option.some.inj H
              go_wp2
              repeat (go_quiet (fail); try go_wp2)
              go_ret
              exact ⟨by first | rfl | (simp; done) | (simp [*]; done), by repeat (first | exact Drawn0.refl _ | apply Drawn0.step)⟩
            · rw [if_neg c8] at H
              have c8b0 : decide ((l0.length : Int) ≤ 60) = false := decide_eq_false c8
              have c8b1 : decide (l0.length ≤ 60) = false := decide_eq_false (by omega)
              clear c8
              obtain rfl := Option.some.inj H
              go_wp2
              repeat (go_quiet (fail); try go_wp2)
              go_ret
              exact ⟨by first | rfl | (simp; done) | (simp [*]; done), by repeat (first | exact Drawn0.refl _ | apply Drawn0.step)⟩
def vinculumref09_word.f (k : Nat) (a0 : ByteArray) (a1 : Int) : Option (Int) := if 0 ≤ a1 then (if a1 ≤ (wrap64 (a1 + 2)) then (if (wrap64 (a1 + 2)) ≤ (a0.size : Int) then ((vinculumref03_One.f k (a0.extract (a1 : Int).toNat ((wrap64 (a1 + 2)) : Int).toNat) 2).bind fun t612 => (some t612)) else (none)) else (none)) else (none)
set_option maxHeartbeats 8000000 in
set_option maxRecDepth 100000 in
theorem vinculumref09_word.calls (k : Nat) (a0 : ByteArray) (a1 : Int) (r : Int) (w : World) (h : vinculumref09_word.f k a0 a1 = some r) :
    Calls Try.prog 87 #[.string a0, .int .i64 a1] w fun e w' => e = .returned (.int .i64 r) ∧ Drawn0 w w' := by
  have H : (if 0 ≤ a1 then (if a1 ≤ (wrap64 (a1 + 2)) then (if (wrap64 (a1 + 2)) ≤ (a0.size : Int) then ((vinculumref03_One.f k (a0.extract (a1 : Int).toNat ((wrap64 (a1 + 2)) : Int).toNat) 2).bind fun t612 => (some t612)) else (none)) else (none)) else (none)) = some r := h
  clear h
  by_cases c3 : 0 ≤ a1
  · rw [if_pos c3] at H
    have c3b0 := eq_true c3
    have c3b1 : decide (0 ≤ a1) = true := decide_eq_true c3
    clear c3
    by_cases c4 : a1 ≤ (wrap64 (a1 + 2))
    · rw [if_pos c4] at H
      have c4b0 := eq_true c4
      have c4b1 : decide (a1 ≤ (wrap64 (a1 + 2))) = true := decide_eq_true c4
      by_cases c5 : (wrap64 (a1 + 2)) ≤ (a0.size : Int)
      · rw [if_pos c5] at H
        have c5b0 := eq_true c5
        have c5b1 : decide ((wrap64 (a1 + 2)) ≤ (a0.size : Int)) = true := decide_eq_true c5
        replace H := Option.bind_eq_some_iff.mp H
        obtain ⟨t612, A60, H⟩ := H
        replace H : (some t612) = some r := H
        have A6 := Aside0.mk A60
        clear A60
        obtain rfl := Option.some.inj H
        go_enter Try.func87, Try.ntmps87
        go_wp2_with (first | ((with_reducible refine gate_callee (f := 66) rfl ?_); refine goesL_ (some 10) rfl rfl Try.func66 (by kernel_rfl) rfl #[.string (a0.extract (a1 : Int).toNat ((wrap64 (a1 + 2)) : Int).toNat), .int .i64 2] rfl (by (try simp only [List.map_toArray, List.map_cons, List.map_nil]); first | done | rfl | (simp only [List.length_drop, List.length_take]; rfl)) ?_; (with_reducible refine (vinculumref03_One.calls k (a0.extract (a1 : Int).toNat ((wrap64 (a1 + 2)) : Int).toNat) 2 t612 _ A6.out).mono ?_); rintro e w' ⟨rfl, ⟨nd, rfl⟩⟩; refine ⟨_, rfl, ?_⟩))
        go_ret
        exact ⟨by first | rfl | (simp; done) | (simp [*]; done), by repeat (first | exact Drawn0.refl _ | apply Drawn0.step)⟩
      · rw [if_neg c5] at H
        exact absurd H (by simp)
    · rw [if_neg c4] at H
      exact absurd H (by simp)
  · rw [if_neg c3] at H
    exact absurd H (by simp)
def vinculumref09_plane.f (a0 : Int) : Option (Int) := if a0 ≥ 65536 then (some (wrap64 (a0 - 65536))) else (some a0)
set_option maxHeartbeats 8000000 in
set_option maxRecDepth 100000 in
theorem vinculumref09_plane.calls (a0 : Int) (r : Int) (w : World) (h : vinculumref09_plane.f a0 = some r) :
    Calls Try.prog 101 #[.int .i64 a0] w fun e w' => e = .returned (.int .i64 r) ∧ Drawn0 w w' := by
  have H : (if a0 ≥ 65536 then (some (wrap64 (a0 - 65536))) else (some a0)) = some r := h
  clear h
  by_cases c2 : a0 ≥ 65536
  · rw [if_pos c2] at H
    have c2b0 : decide (65536 ≤ a0) = true := decide_eq_true c2
    clear c2
    obtain rfl := Option.some.inj H
    go_enter Try.func101, Try.ntmps101
    go_wp2
    go_ret
    exact ⟨by first | rfl | (simp; done) | (simp [*]; done), by repeat (first | exact Drawn0.refl _ | apply Drawn0.step)⟩
  · rw [if_neg c2] at H
    have c2b0 : decide (65536 ≤ a0) = false := decide_eq_false c2
    clear c2
    obtain rfl := Option.some.inj H
    go_enter Try.func101, Try.ntmps101
    go_wp2
    go_ret
    exact ⟨by first | rfl | (simp; done) | (simp [*]; done), by repeat (first | exact Drawn0.refl _ | apply Drawn0.step)⟩
def vinculumref09_near.f (a0 : Int) (a1 : Int) (a2 : Int) : Option ((List (S42))) := (vinculumref09_plane.f (wrap64 (a0 + a2))).bind fun t613 => (if (wrap64 ((wrap64 (t613 + a1)) - a0)) ≤ 65535 then (if ([] : List (S42)).length < 4398046511104 then (some (([] : List (S42)) ++ [(⟨a0, a1, t613, 1⟩ : S42)])) else (none)) else (if ([] : List (S42)).length < 4398046511104 then ((some (([] : List (S42)) ++ [(⟨a0, wrap64 ((wrap64 (a0 + 65535)) - t613), t613, 1⟩ : S42)] : List (S42))).bind fun y617 => (if y617.length < 4398046511104 then (some (y617 ++ [(⟨wrap64 ((wrap64 ((wrap64 (a0 + 65535)) - t613)) + 1), a1, 0, 1⟩ : S42)])) else (none))) else (none)))
set_option maxHeartbeats 8000000 in
set_option maxRecDepth 100000 in
theorem vinculumref09_near.calls (a0 : Int) (a1 : Int) (a2 : Int) (r : List (S42)) (w : World) (h : vinculumref09_near.f a0 a1 a2 = some r) :
    Calls Try.prog 88 #[.int .i64 a0, .int .i64 a1, .int .i64 a2] w fun e w' => ∃ v0_ : Value, e = .returned (v0_) ∧ Kd.R k42 42 w' w.heap.size (fun _ => True) v0_ r ∧ Below w.heap.size w w' := by
  have hu42 := Try.underlying42
  have HB := Aside0.mk (Below.refl w.heap.size w)
  have H : ((vinculumref09_plane.f (wrap64 (a0 + a2))).bind fun t613 => (if (wrap64 ((wrap64 (t613 + a1)) - a0)) ≤ 65535 then (if ([] : List (S42)).length < 4398046511104 then (some (([] : List (S42)) ++ [(⟨a0, a1, t613, 1⟩ : S42)])) else (none)) else (if ([] : List (S42)).length < 4398046511104 then ((some (([] : List (S42)) ++ [(⟨a0, wrap64 ((wrap64 (a0 + 65535)) - t613), t613, 1⟩ : S42)] : List (S42))).bind fun y617 => (if y617.length < 4398046511104 then (some (y617 ++ [(⟨wrap64 ((wrap64 ((wrap64 (a0 + 65535)) - t613)) + 1), a1, 0, 1⟩ : S42)])) else (none))) else (none)))) = some r := h
  clear h
  replace H := Option.bind_eq_some_iff.mp H
  obtain ⟨t613, A40, H⟩ := H
  replace H : (if (wrap64 ((wrap64 (t613 + a1)) - a0)) ≤ 65535 then (if ([] : List (S42)).length < 4398046511104 then (some (([] : List (S42)) ++ [(⟨a0, a1, t613, 1⟩ : S42)])) else (none)) else (if ([] : List (S42)).length < 4398046511104 then ((some (([] : List (S42)) ++ [(⟨a0, wrap64 ((wrap64 (a0 + 65535)) - t613), t613, 1⟩ : S42)] : List (S42))).bind fun y617 => (if y617.length < 4398046511104 then (some (y617 ++ [(⟨wrap64 ((wrap64 ((wrap64 (a0 + 65535)) - t613)) + 1), a1, 0, 1⟩ : S42)])) else (none))) else (none))) = some r := H
  have A4 := Aside0.mk A40
  clear A40
  by_cases c5 : (wrap64 ((wrap64 (t613 + a1)) - a0)) ≤ 65535
  · rw [if_pos c5] at H
    have c5b0 : decide ((wrap64 ((wrap64 (t613 + a1)) - a0)) ≤ 65535) = true := decide_eq_true c5
    clear c5
    by_cases c6 : ([] : List (S42)).length < 4398046511104
    · rw [if_pos c6] at H
      have LMc6 := Aside0.mk c6
      clear c6
      obtain ⟨y614, hy614⟩ : ∃ y_ : List (S42), y_ = (([] : List (S42)) ++ [(⟨a0, a1, t613, 1⟩ : S42)]) := ⟨_, rfl⟩
      replace H : (some y614) = some r := by first | (rw [hy614]; with_reducible exact H) | (have H2_ := (Option.bind_some _ _).symm.trans H; rw [hy614]; with_reducible exact H2_) | (have H2_ := (Option.bind_some _ _).symm.trans H; with_reducible exact H2_) | with_reducible exact H | (rw [hy614]; exact H) | exact H
      have Ny614 := Aside0.mk hy614
      clear hy614
      obtain rfl := Option.some.inj H
      go_enter Try.func88, Try.ntmps88
      go_wp2_with (first | ((with_reducible refine gate_callee (f := 101) rfl ?_); refine goesL_ (some 13) rfl rfl Try.func101 (by kernel_rfl) rfl #[.int .i64 (wrap64 (a0 + a2))] rfl (by (try simp only [List.map_toArray, List.map_cons, List.map_nil]); first | done | rfl | (simp only [List.length_drop, List.length_take]; rfl)) ?_; (with_reducible refine (vinculumref09_plane.calls (wrap64 (a0 + a2)) t613 _ A4.out).mono ?_); rintro e w' ⟨rfl, ⟨nd, rfl⟩⟩; refine ⟨_, rfl, ?_⟩) | ((with_reducible refine gate_builtin (b := .append) (xs := #[.tmp 20, .tmp 25]) rfl ?_); at_builtin; refine Kd.R_append k42 (w0 := w) w.heap.size rfl (.tmp 20) (.tmp 25) 22 42 (.agg #[(.int .i64 0), (.int .i64 0), (.int .i64 0), (.int .i64 0)]) 32 rfl Try.underlying22 info42 rfl (by decide) (by omega) (.slice none 0 0) ([] : List (S42)) (⟨a0, a1, t613, 1⟩ : S42) [.int .i64 a0, .int .i64 a1, .int .i64 t613, .int .i64 1] (fun _ => True) (fun _ => False) rfl rfl ?aP (fun _ hk => hk.elim) ?aF ?aO ?aB ?aS ?aL ?_; (case aP => exact k42_mkM _ _ _ (⟨a0, a1, t613, 1⟩ : S42)); (case aB => exact (by repeat (first | (with_reducible first | exact HB.out | apply below_alloc | apply pw_below_drewN | apply below_drew1) | exact HB.out))); (case aF => exact (fun _ _ => trivial)); (case aO => exact ((Kd.R_nil _ _ _ _ (fun _ => True)))); (case aS => exact (below_size (by repeat (first | (with_reducible first | exact HB.out | apply below_alloc | apply pw_below_drewN | apply below_drew1) | exact HB.out)))); (case aL => have := LMc6.out; omega); intro v615 w7 ho hb hg hat; rw [← Ny614.out] at ho; have n0_ := Aside0.mk (hb); have n1_ := Aside0.mk (ho); clear HB; have HB := n0_; have HO616 := n1_; clear n0_ n1_; clear ho hb hg hat))
      go_ret
      exact ⟨_, by first | rfl | (simp [errW_none, errW_some] <;> rfl) | (simp [*, errW_none, errW_some] <;> rfl), by (with_reducible repeat (first | apply Kd.R_alloc | apply Kd.R_drewN | apply Kd.R_drew)); exact HO616.out, by repeat (first | (with_reducible first | exact HB.out | apply below_alloc | apply pw_below_drewN | apply below_drew1) | exact HB.out)⟩
    · rw [if_neg c6] at H
      exact absurd H (by simp)
  · rw [if_neg c5] at H
    have c5b0 : decide ((wrap64 ((wrap64 (t613 + a1)) - a0)) ≤ 65535) = false := decide_eq_false c5
    clear c5
    by_cases c8 : ([] : List (S42)).length < 4398046511104
    · rw [if_pos c8] at H
      have LMc8 := Aside0.mk c8
      clear c8
      obtain ⟨y617, hy617⟩ : ∃ y_ : List (S42), y_ = (([] : List (S42)) ++ [(⟨a0, wrap64 ((wrap64 (a0 + 65535)) - t613), t613, 1⟩ : S42)]) := ⟨_, rfl⟩
      replace H : (if y617.length < 4398046511104 then (some (y617 ++ [(⟨wrap64 ((wrap64 ((wrap64 (a0 + 65535)) - t613)) + 1), a1, 0, 1⟩ : S42)])) else (none)) = some r := by first | (rw [hy617]; with_reducible exact H) | (have H2_ := (Option.bind_some _ _).symm.trans H; rw [hy617]; with_reducible exact H2_) | (have H2_ := (Option.bind_some _ _).symm.trans H; with_reducible exact H2_) | with_reducible exact H | (rw [hy617]; exact H) | exact H
      have Ny617 := Aside0.mk hy617
      clear hy617
      by_cases c9 : y617.length < 4398046511104
      · rw [if_pos c9] at H
        have LMc9 := Aside0.mk c9
        clear c9
        obtain ⟨y620, hy620⟩ : ∃ y_ : List (S42), y_ = (y617 ++ [(⟨wrap64 ((wrap64 ((wrap64 (a0 + 65535)) - t613)) + 1), a1, 0, 1⟩ : S42)]) := ⟨_, rfl⟩
        replace H : (some y620) = some r := by first | (rw [hy620]; with_reducible exact H) | (have H2_ := (Option.bind_some _ _).symm.trans H; rw [hy620]; with_reducible exact H2_) | (have H2_ := (Option.bind_some _ _).symm.trans H; with_reducible exact H2_) | with_reducible exact H | (rw [hy620]; exact H) | exact H
        have Ny620 := Aside0.mk hy620
        clear hy620
        obtain rfl := Option.some.inj H
        go_enter Try.func88, Try.ntmps88
        go_wp2_with (first | ((with_reducible refine gate_callee (f := 101) rfl ?_); refine goesL_ (some 13) rfl rfl Try.func101 (by kernel_rfl) rfl #[.int .i64 (wrap64 (a0 + a2))] rfl (by (try simp only [List.map_toArray, List.map_cons, List.map_nil]); first | done | rfl | (simp only [List.length_drop, List.length_take]; rfl)) ?_; (with_reducible refine (vinculumref09_plane.calls (wrap64 (a0 + a2)) t613 _ A4.out).mono ?_); rintro e w' ⟨rfl, ⟨nd, rfl⟩⟩; refine ⟨_, rfl, ?_⟩) | ((with_reducible refine gate_builtin (b := .append) (xs := #[.tmp 31, .tmp 36]) rfl ?_); at_builtin; refine Kd.R_append k42 (w0 := w) w.heap.size rfl (.tmp 31) (.tmp 36) 22 42 (.agg #[(.int .i64 0), (.int .i64 0), (.int .i64 0), (.int .i64 0)]) 32 rfl Try.underlying22 info42 rfl (by decide) (by omega) (.slice none 0 0) ([] : List (S42)) (⟨a0, wrap64 ((wrap64 (a0 + 65535)) - t613), t613, 1⟩ : S42) [.int .i64 a0, .int .i64 (wrap64 ((wrap64 (a0 + 65535)) - t613)), .int .i64 t613, .int .i64 1] (fun _ => True) (fun _ => False) rfl rfl ?aP (fun _ hk => hk.elim) ?aF ?aO ?aB ?aS ?aL ?_; (case aP => exact k42_mkM _ _ _ (⟨a0, wrap64 ((wrap64 (a0 + 65535)) - t613), t613, 1⟩ : S42)); (case aB => exact (by repeat (first | (with_reducible first | exact HB.out | apply below_alloc | apply pw_below_drewN | apply below_drew1) | exact HB.out))); (case aF => exact (fun _ _ => trivial)); (case aO => exact ((Kd.R_nil _ _ _ _ (fun _ => True)))); (case aS => exact (below_size (by repeat (first | (with_reducible first | exact HB.out | apply below_alloc | apply pw_below_drewN | apply below_drew1) | exact HB.out)))); (case aL => have := LMc8.out; omega); intro v618 w10 ho hb hg hat; rw [← Ny617.out] at ho; have n0_ := Aside0.mk (hb); have n1_ := Aside0.mk (ho); clear HB; have HB := n0_; have HO619 := n1_; clear n0_ n1_; clear ho hb hg hat) | ((with_reducible refine gate_builtin (b := .append) (xs := #[.tmp 38, .tmp 43]) rfl ?_); at_builtin; refine Kd.R_append k42 (w0 := w) w.heap.size rfl (.tmp 38) (.tmp 43) 22 42 (.agg #[(.int .i64 0), (.int .i64 0), (.int .i64 0), (.int .i64 0)]) 32 rfl Try.underlying22 info42 rfl (by decide) (by omega) v618 y617 (⟨wrap64 ((wrap64 ((wrap64 (a0 + 65535)) - t613)) + 1), a1, 0, 1⟩ : S42) [.int .i64 (wrap64 ((wrap64 ((wrap64 (a0 + 65535)) - t613)) + 1)), .int .i64 a1, .int .i64 0, .int .i64 1] (fun _ => True) (fun _ => False) rfl rfl ?aP (fun _ hk => hk.elim) ?aF ?aO ?aB ?aS ?aL ?_; (case aP => exact k42_mkM _ _ _ (⟨wrap64 ((wrap64 ((wrap64 (a0 + 65535)) - t613)) + 1), a1, 0, 1⟩ : S42)); (case aB => exact (by repeat (first | (with_reducible first | exact HB.out | apply below_alloc | apply pw_below_drewN | apply below_drew1) | exact HB.out))); (case aF => exact (fun _ _ => trivial)); (case aO => exact (by (with_reducible repeat (first | apply Kd.R_alloc | apply Kd.R_drewN | apply Kd.R_drew)); exact HO619.out)); (case aS => exact (below_size (by repeat (first | (with_reducible first | exact HB.out | apply below_alloc | apply pw_below_drewN | apply below_drew1) | exact HB.out)))); (case aL => have := LMc9.out; omega); intro v621 w11 ho hb hg hat; rw [← Ny620.out] at ho; have n0_ := Aside0.mk (hb); have n1_ := Aside0.mk (ho); clear HB; clear HO619; have HB := n0_; have HO622 := n1_; clear n0_ n1_; clear ho hb hg hat))
        go_ret
        exact ⟨_, by first | rfl | (simp [errW_none, errW_some] <;> rfl) | (simp [*, errW_none, errW_some] <;> rfl), by (with_reducible repeat (first | apply Kd.R_alloc | apply Kd.R_drewN | apply Kd.R_drew)); exact HO622.out, by repeat (first | (with_reducible first | exact HB.out | apply below_alloc | apply pw_below_drewN | apply below_drew1) | exact HB.out)⟩
      · rw [if_neg c9] at H
        exact absurd H (by simp)
    · rw [if_neg c8] at H
      exact absurd H (by simp)
def vinculumref09_far.l0 : Nat → ByteArray → Int → Int → Int → Int → List (S42) → Int → Option ((List (S42)) × Int)
  | 0, _, _, _, _, _, _, _ => none
  | k + 1, x0, x1, x2, x3, x4, x12, x13 => if x13 ≤ x2 then ((vinculumref09_word.f k x0 x4).bind fun t623 => (if (wrap64 ((wrap64 ((wrap64 (x4 + t623)) + (wrap64 (2 * (wrap64 (x13 - x1)))))) + 2)) > (x0.size : Int) then (some (([] : List (S42)), 4)) else ((vinculumref09_word.f k x0 (wrap64 ((wrap64 (x4 + t623)) + (wrap64 (2 * (wrap64 (x13 - x1))))))).bind fun t624 => ((vinculumref09_plane.f (wrap64 (t624 + x3))).bind fun t625 => (if t624 > 0 then (if t625 > 0 then (if x12.length < 4398046511104 then (vinculumref09_far.l0 k x0 x1 x2 x3 x4 (x12 ++ [(⟨x13, x13, t625, 1⟩ : S42)]) (wrap64 (x13 + 1))) else (none)) else (vinculumref09_far.l0 k x0 x1 x2 x3 x4 x12 (wrap64 (x13 + 1)))) else (vinculumref09_far.l0 k x0 x1 x2 x3 x4 x12 (wrap64 (x13 + 1)))))))) else (some (x12, 0))
def vinculumref09_far.f (k : Nat) (a0 : ByteArray) (a1 : Int) (a2 : Int) (a3 : Int) (a4 : Int) : Option ((List (S42)) × Int) := vinculumref09_far.l0 k a0 a1 a2 a3 a4 ([] : List (S42)) a1
set_option maxHeartbeats 8000000 in
set_option maxRecDepth 100000 in
theorem vinculumref09_far.calls (k : Nat) (a0 : ByteArray) (a1 : Int) (a2 : Int) (a3 : Int) (a4 : Int) (r1 : List (S42)) (r2 : Int) (w : World) (h : vinculumref09_far.f k a0 a1 a2 a3 a4 = some (r1, r2)) :
    Calls Try.prog 89 #[.string a0, .int .i64 a1, .int .i64 a2, .int .i64 a3, .int .i64 a4] w fun e w' => ∃ v0_ : Value, e = .returned (.tuple #[v0_, .int .i64 r2]) ∧ Kd.R k42 42 w' w.heap.size (fun _ => True) v0_ r1 ∧ Below w.heap.size w w' := by
  have hu42 := Try.underlying42
  have HB := Aside0.mk (Below.refl w.heap.size w)
  have H : (vinculumref09_far.l0 k a0 a1 a2 a3 a4 ([] : List (S42)) a1) = some (r1, r2) := h
  clear h
  have H' := Aside0.mk H
  clear H
  go_enter Try.func89, Try.ntmps89
  go_wp2
  go_loopg [12, 13] k (fun kq v12 v13 w' => ∃ (x12_1 : List (S42)) (x13_1 : Int), v13 = .int .i64 x13_1 ∧ Aside0 (vinculumref09_far.l0 kq a0 a1 a2 a3 a4 x12_1 x13_1 = some (r1, r2)) ∧ Aside0 (kq ≤ k) ∧ Aside0 (Kd.R k42 42 w' w.heap.size (fun _ => True) v12 x12_1) ∧ Aside0 (Below w.heap.size w w'))
  case atStart => exact ⟨(([] : List (S42))), (a1), (by first | rfl | (simp; done) | (simp [*]; done)), H', ⟨Nat.le_refl _⟩, ⟨by first | exact Kd.R_nil _ _ _ _ _ | exact Kd.N_nil _ _ _ _ _ | exact Kd.V_nil _ _ _ _ _ | exact Kd.Q_nil _ _ _ _ _ | exact Kd.S_nil _ _ _ _ _⟩, ⟨by repeat (first | (with_reducible first | exact HB.out | apply below_alloc | apply pw_below_drewN | apply below_drew1) | exact HB.out)⟩⟩
  case round =>
    clear H'
    try clear p2
    obtain ⟨x12_1, x13_1, rfl, HA, HK1, HO_12, HB⟩ := hrel
    cases gk with
    | zero => exact absurd HA.out (by simp [vinculumref09_far.l0])
    | succ k1 =>
      have H := HA.out
      clear HA
      simp only [vinculumref09_far.l0] at H
      by_cases c6 : x13_1 ≤ a2
      · rw [if_pos c6] at H
        have c6b0 : decide (x13_1 ≤ a2) = true := decide_eq_true c6
        clear c6
        replace H := Option.bind_eq_some_iff.mp H
        obtain ⟨t623, A70, H⟩ := H
        replace H : (if (wrap64 ((wrap64 ((wrap64 (a4 + t623)) + (wrap64 (2 * (wrap64 (x13_1 - a1)))))) + 2)) > (a0.size : Int) then (some (([] : List (S42)), 4)) else ((vinculumref09_word.f k1 a0 (wrap64 ((wrap64 (a4 + t623)) + (wrap64 (2 * (wrap64 (x13_1 - a1))))))).bind fun t624 => ((vinculumref09_plane.f (wrap64 (t624 + a3))).bind fun t625 => (if t624 > 0 then (if t625 > 0 then (if x12_1.length < 4398046511104 then (vinculumref09_far.l0 k1 a0 a1 a2 a3 a4 (x12_1 ++ [(⟨x13_1, x13_1, t625, 1⟩ : S42)]) (wrap64 (x13_1 + 1))) else (none)) else (vinculumref09_far.l0 k1 a0 a1 a2 a3 a4 x12_1 (wrap64 (x13_1 + 1)))) else (vinculumref09_far.l0 k1 a0 a1 a2 a3 a4 x12_1 (wrap64 (x13_1 + 1))))))) = some (r1, r2) := H
        have A7 := Aside0.mk A70
        clear A70
        by_cases c8 : (wrap64 ((wrap64 ((wrap64 (a4 + t623)) + (wrap64 (2 * (wrap64 (x13_1 - a1)))))) + 2)) > (a0.size : Int)
        · rw [if_pos c8] at H
          have c8b0 : decide ((a0.size : Int) < (wrap64 ((wrap64 ((wrap64 (a4 + t623)) + (wrap64 (2 * (wrap64 (x13_1 - a1)))))) + 2))) = true := decide_eq_true c8
          clear c8
          simp only [Option.some.injEq, Prod.mk.injEq] at H
          obtain ⟨rfl, rfl⟩ := H
          go_wp2_with (first | ((with_reducible refine gate_callee (f := 87) rfl ?_); refine goesL_ (some 26) rfl rfl Try.func87 (by kernel_rfl) rfl #[.string a0, .int .i64 a4] rfl (by (try simp only [List.map_toArray, List.map_cons, List.map_nil]); first | done | rfl | (simp only [List.length_drop, List.length_take]; rfl)) ?_; (with_reducible refine (vinculumref09_word.calls k1 a0 a4 t623 _ A7.out).mono ?_); rintro e w' ⟨rfl, ⟨nd, rfl⟩⟩; refine ⟨_, rfl, ?_⟩))
          go_ret2
          exact ⟨_, by first | rfl | (simp [errW_none, errW_some] <;> rfl) | (simp [*, errW_none, errW_some] <;> rfl), by first | exact Kd.R_nil _ _ _ _ _ | exact Kd.N_nil _ _ _ _ _ | exact Kd.V_nil _ _ _ _ _ | exact Kd.Q_nil _ _ _ _ _ | exact Kd.S_nil _ _ _ _ _, by repeat (first | (with_reducible first | exact HB.out | apply below_alloc | apply pw_below_drewN | apply below_drew1) | exact HB.out)⟩
        · rw [if_neg c8] at H
          have c8b0 : decide ((a0.size : Int) < (wrap64 ((wrap64 ((wrap64 (a4 + t623)) + (wrap64 (2 * (wrap64 (x13_1 - a1)))))) + 2))) = false := decide_eq_false c8
          clear c8
          replace H := Option.bind_eq_some_iff.mp H
          obtain ⟨t624, A90, H⟩ := H
          replace H : ((vinculumref09_plane.f (wrap64 (t624 + a3))).bind fun t625 => (if t624 > 0 then (if t625 > 0 then (if x12_1.length < 4398046511104 then (vinculumref09_far.l0 k1 a0 a1 a2 a3 a4 (x12_1 ++ [(⟨x13_1, x13_1, t625, 1⟩ : S42)]) (wrap64 (x13_1 + 1))) else (none)) else (vinculumref09_far.l0 k1 a0 a1 a2 a3 a4 x12_1 (wrap64 (x13_1 + 1)))) else (vinculumref09_far.l0 k1 a0 a1 a2 a3 a4 x12_1 (wrap64 (x13_1 + 1))))) = some (r1, r2) := H
          have A9 := Aside0.mk A90
          clear A90
          replace H := Option.bind_eq_some_iff.mp H
          obtain ⟨t625, A100, H⟩ := H
          replace H : (if t624 > 0 then (if t625 > 0 then (if x12_1.length < 4398046511104 then (vinculumref09_far.l0 k1 a0 a1 a2 a3 a4 (x12_1 ++ [(⟨x13_1, x13_1, t625, 1⟩ : S42)]) (wrap64 (x13_1 + 1))) else (none)) else (vinculumref09_far.l0 k1 a0 a1 a2 a3 a4 x12_1 (wrap64 (x13_1 + 1)))) else (vinculumref09_far.l0 k1 a0 a1 a2 a3 a4 x12_1 (wrap64 (x13_1 + 1)))) = some (r1, r2) := H
          have A10 := Aside0.mk A100
          clear A100
          by_cases c11 : t624 > 0
          · rw [if_pos c11] at H
            have c11b0 : decide (0 < t624) = true := decide_eq_true c11
            clear c11
            by_cases c12 : t625 > 0
            · rw [if_pos c12] at H
              have c12b0 : decide (0 < t625) = true := decide_eq_true c12
              clear c12
              by_cases c13 : x12_1.length < 4398046511104
              · rw [if_pos c13] at H
                have LMc13 := Aside0.mk c13
                clear c13
                obtain ⟨y626, hy626⟩ : ∃ y_ : List (S42), y_ = (x12_1 ++ [(⟨x13_1, x13_1, t625, 1⟩ : S42)]) := ⟨_, rfl⟩
                replace H : (vinculumref09_far.l0 k1 a0 a1 a2 a3 a4 y626 (wrap64 (x13_1 + 1))) = some (r1, r2) := by first | (rw [hy626]; with_reducible exact H) | (have H2_ := (Option.bind_some _ _).symm.trans H; rw [hy626]; with_reducible exact H2_) | (have H2_ := (Option.bind_some _ _).symm.trans H; with_reducible exact H2_) | with_reducible exact H | (rw [hy626]; exact H) | exact H
                have Ny626 := Aside0.mk hy626
                clear hy626
                have H' := Aside0.mk H
                clear H
                go_wp2_with (first | ((with_reducible refine gate_callee (f := 87) rfl ?_); refine goesL_ (some 26) rfl rfl Try.func87 (by kernel_rfl) rfl #[.string a0, .int .i64 a4] rfl (by (try simp only [List.map_toArray, List.map_cons, List.map_nil]); first | done | rfl | (simp only [List.length_drop, List.length_take]; rfl)) ?_; (with_reducible refine (vinculumref09_word.calls k1 a0 a4 t623 _ A7.out).mono ?_); rintro e w' ⟨rfl, ⟨nd, rfl⟩⟩; refine ⟨_, rfl, ?_⟩) | ((with_reducible refine gate_callee (f := 87) rfl ?_); refine goesL_ (some 40) rfl rfl Try.func87 (by kernel_rfl) rfl #[.string a0, .int .i64 (wrap64 ((wrap64 (a4 + t623)) + (wrap64 (2 * (wrap64 (x13_1 - a1))))))] rfl (by (try simp only [List.map_toArray, List.map_cons, List.map_nil]); first | done | rfl | (simp only [List.length_drop, List.length_take]; rfl)) ?_; (with_reducible refine (vinculumref09_word.calls k1 a0 (wrap64 ((wrap64 (a4 + t623)) + (wrap64 (2 * (wrap64 (x13_1 - a1)))))) t624 _ A9.out).mono ?_); rintro e w' ⟨rfl, ⟨nd, rfl⟩⟩; refine ⟨_, rfl, ?_⟩) | ((with_reducible refine gate_callee (f := 101) rfl ?_); refine goesL_ (some 44) rfl rfl Try.func101 (by kernel_rfl) rfl #[.int .i64 (wrap64 (t624 + a3))] rfl (by (try simp only [List.map_toArray, List.map_cons, List.map_nil]); first | done | rfl | (simp only [List.length_drop, List.length_take]; rfl)) ?_; (with_reducible refine (vinculumref09_plane.calls (wrap64 (t624 + a3)) t625 _ A10.out).mono ?_); rintro e w' ⟨rfl, ⟨nd, rfl⟩⟩; refine ⟨_, rfl, ?_⟩) | ((with_reducible refine gate_builtin (b := .append) (xs := #[.tmp 51, .tmp 56]) rfl ?_); at_builtin; refine Kd.R_append k42 (w0 := w) w.heap.size rfl (.tmp 51) (.tmp 56) 22 42 (.agg #[(.int .i64 0), (.int .i64 0), (.int .i64 0), (.int .i64 0)]) 32 rfl Try.underlying22 info42 rfl (by decide) (by omega) u12 x12_1 (⟨x13_1, x13_1, t625, 1⟩ : S42) [.int .i64 x13_1, .int .i64 x13_1, .int .i64 t625, .int .i64 1] (fun _ => True) (fun _ => False) rfl rfl ?aP (fun _ hk => hk.elim) ?aF ?aO ?aB ?aS ?aL ?_; (case aP => exact k42_mkM _ _ _ (⟨x13_1, x13_1, t625, 1⟩ : S42)); (case aB => exact (by repeat (first | (with_reducible first | exact HB.out | apply below_alloc | apply pw_below_drewN | apply below_drew1) | exact HB.out))); (case aF => exact (fun _ _ => trivial)); (case aO => exact (by (with_reducible repeat (first | apply Kd.R_alloc | apply Kd.R_drewN | apply Kd.R_drew)); exact HO_12.out)); (case aS => exact (below_size (by repeat (first | (with_reducible first | exact HB.out | apply below_alloc | apply pw_below_drewN | apply below_drew1) | exact HB.out)))); (case aL => have := LMc13.out; omega); intro v627 w14 ho hb hg hat; rw [← Ny626.out] at ho; have n0_ := Aside0.mk (hb); have n1_ := Aside0.mk (ho); clear HB; clear HO_12; have HB := n0_; have HO628 := n1_; clear n0_ n1_; clear ho hb hg hat))
                go_roundg k1
                case measure => have := HK1.out; omega
                case rel => exact ⟨(y626), (wrap64 (x13_1 + 1)), (by first | rfl | (simp; done) | (simp [*]; done)), H', ⟨by have := HK1.out; omega⟩, ⟨by (with_reducible repeat (first | apply Kd.R_alloc | apply Kd.R_drewN | apply Kd.R_drew)); exact HO628.out⟩, ⟨by repeat (first | (with_reducible first | exact HB.out | apply below_alloc | apply pw_below_drewN | apply below_drew1) | exact HB.out)⟩⟩
              · rw [if_neg c13] at H
                exact absurd H (by simp)
            · rw [if_neg c12] at H
              have c12b0 : decide (0 < t625) = false := decide_eq_false c12
              clear c12
              have H' := Aside0.mk H
              clear H
              go_wp2_with (first | ((with_reducible refine gate_callee (f := 87) rfl ?_); refine goesL_ (some 26) rfl rfl Try.func87 (by kernel_rfl) rfl #[.string a0, .int .i64 a4] rfl (by (try simp only [List.map_toArray, List.map_cons, List.map_nil]); first | done | rfl | (simp only [List.length_drop, List.length_take]; rfl)) ?_; (with_reducible refine (vinculumref09_word.calls k1 a0 a4 t623 _ A7.out).mono ?_); rintro e w' ⟨rfl, ⟨nd, rfl⟩⟩; refine ⟨_, rfl, ?_⟩) | ((with_reducible refine gate_callee (f := 87) rfl ?_); refine goesL_ (some 40) rfl rfl Try.func87 (by kernel_rfl) rfl #[.string a0, .int .i64 (wrap64 ((wrap64 (a4 + t623)) + (wrap64 (2 * (wrap64 (x13_1 - a1))))))] rfl (by (try simp only [List.map_toArray, List.map_cons, List.map_nil]); first | done | rfl | (simp only [List.length_drop, List.length_take]; rfl)) ?_; (with_reducible refine (vinculumref09_word.calls k1 a0 (wrap64 ((wrap64 (a4 + t623)) + (wrap64 (2 * (wrap64 (x13_1 - a1)))))) t624 _ A9.out).mono ?_); rintro e w' ⟨rfl, ⟨nd, rfl⟩⟩; refine ⟨_, rfl, ?_⟩) | ((with_reducible refine gate_callee (f := 101) rfl ?_); refine goesL_ (some 44) rfl rfl Try.func101 (by kernel_rfl) rfl #[.int .i64 (wrap64 (t624 + a3))] rfl (by (try simp only [List.map_toArray, List.map_cons, List.map_nil]); first | done | rfl | (simp only [List.length_drop, List.length_take]; rfl)) ?_; (with_reducible refine (vinculumref09_plane.calls (wrap64 (t624 + a3)) t625 _ A10.out).mono ?_); rintro e w' ⟨rfl, ⟨nd, rfl⟩⟩; refine ⟨_, rfl, ?_⟩))
              go_roundg k1
              case measure => have := HK1.out; omega
              case rel => exact ⟨(x12_1), (wrap64 (x13_1 + 1)), (by first | rfl | (simp; done) | (simp [*]; done)), H', ⟨by have := HK1.out; omega⟩, ⟨by (with_reducible repeat (first | apply Kd.R_alloc | apply Kd.R_drewN | apply Kd.R_drew)); exact HO_12.out⟩, ⟨by repeat (first | (with_reducible first | exact HB.out | apply below_alloc | apply pw_below_drewN | apply below_drew1) | exact HB.out)⟩⟩
          · rw [if_neg c11] at H
            have c11b0 : decide (0 < t624) = false := decide_eq_false c11
            clear c11
            have H' := Aside0.mk H
            clear H
            go_wp2_with (first | ((with_reducible refine gate_callee (f := 87) rfl ?_); refine goesL_ (some 26) rfl rfl Try.func87 (by kernel_rfl) rfl #[.string a0, .int .i64 a4] rfl (by (try simp only [List.map_toArray, List.map_cons, List.map_nil]); first | done | rfl | (simp only [List.length_drop, List.length_take]; rfl)) ?_; (with_reducible refine (vinculumref09_word.calls k1 a0 a4 t623 _ A7.out).mono ?_); rintro e w' ⟨rfl, ⟨nd, rfl⟩⟩; refine ⟨_, rfl, ?_⟩) | ((with_reducible refine gate_callee (f := 87) rfl ?_); refine goesL_ (some 40) rfl rfl Try.func87 (by kernel_rfl) rfl #[.string a0, .int .i64 (wrap64 ((wrap64 (a4 + t623)) + (wrap64 (2 * (wrap64 (x13_1 - a1))))))] rfl (by (try simp only [List.map_toArray, List.map_cons, List.map_nil]); first | done | rfl | (simp only [List.length_drop, List.length_take]; rfl)) ?_; (with_reducible refine (vinculumref09_word.calls k1 a0 (wrap64 ((wrap64 (a4 + t623)) + (wrap64 (2 * (wrap64 (x13_1 - a1)))))) t624 _ A9.out).mono ?_); rintro e w' ⟨rfl, ⟨nd, rfl⟩⟩; refine ⟨_, rfl, ?_⟩) | ((with_reducible refine gate_callee (f := 101) rfl ?_); refine goesL_ (some 44) rfl rfl Try.func101 (by kernel_rfl) rfl #[.int .i64 (wrap64 (t624 + a3))] rfl (by (try simp only [List.map_toArray, List.map_cons, List.map_nil]); first | done | rfl | (simp only [List.length_drop, List.length_take]; rfl)) ?_; (with_reducible refine (vinculumref09_plane.calls (wrap64 (t624 + a3)) t625 _ A10.out).mono ?_); rintro e w' ⟨rfl, ⟨nd, rfl⟩⟩; refine ⟨_, rfl, ?_⟩))
            go_roundg k1
            case measure => have := HK1.out; omega
            case rel => exact ⟨(x12_1), (wrap64 (x13_1 + 1)), (by first | rfl | (simp; done) | (simp [*]; done)), H', ⟨by have := HK1.out; omega⟩, ⟨by (with_reducible repeat (first | apply Kd.R_alloc | apply Kd.R_drewN | apply Kd.R_drew)); exact HO_12.out⟩, ⟨by repeat (first | (with_reducible first | exact HB.out | apply below_alloc | apply pw_below_drewN | apply below_drew1) | exact HB.out)⟩⟩
      · rw [if_neg c6] at H
        have c6b0 : decide (x13_1 ≤ a2) = false := decide_eq_false c6
        clear c6
        simp only [Option.some.injEq, Prod.mk.injEq] at H
        obtain ⟨rfl, rfl⟩ := H
        go_wp2
        go_ret2
        exact ⟨_, by first | rfl | (simp [errW_none, errW_some] <;> rfl) | (simp [*, errW_none, errW_some] <;> rfl), by (with_reducible repeat (first | apply Kd.R_alloc | apply Kd.R_drewN | apply Kd.R_drew)); exact HO_12.out, by repeat (first | (with_reducible first | exact HB.out | apply below_alloc | apply pw_below_drewN | apply below_drew1) | exact HB.out)⟩
mutual
def vinculumref09_Get.j0 : Nat → ByteArray → Int → Bool → Option ((List (S42)) × Int)
  | 0, _, _, _ => none
  | k + 1, x0, x4, x35 => if x35 = true then (some (([] : List (S42)), 5)) else ((vinculumref09_word.f k x0 2).bind fun t632 => (if t632 > (x0.size : Int) then (some (([] : List (S42)), 4)) else ((vinculumref09_word.f k x0 2).bind fun t633 => (if t633 < (wrap64 (16 + (wrap64 (8 * x4)))) then (some (([] : List (S42)), 5)) else ((vinculumref09_word.f k x0 2).bind fun t634 => (if 0 ≤ t634 then (if t634 ≤ (x0.size : Int) then (vinculumref09_Get.l0 k (x0.extract 0 (t634 : Int).toNat) x4 (-1) 0) else (none)) else (none)))))))
def vinculumref09_Get.l0 : Nat → ByteArray → Int → Int → Int → Option ((List (S42)) × Int)
  | 0, _, _, _, _ => none
  | k + 1, x0, x4, x5, x6 => if x6 < x4 then ((vinculumref09_word.f k x0 (wrap64 (14 + (wrap64 (2 * x6))))).bind fun t635 => ((vinculumref09_word.f k x0 (wrap64 ((wrap64 (16 + (wrap64 (2 * x4)))) + (wrap64 (2 * x6))))).bind fun t636 => (if t636 > t635 then (some (([] : List (S42)), 5)) else (if t636 ≤ x5 then (some (([] : List (S42)), 5)) else ((vinculumref09_word.f k x0 (wrap64 ((wrap64 (16 + (wrap64 (6 * x4)))) + (wrap64 (2 * x6))))).bind fun t637 => (if (Int.tmod t637 2) = 1 then (some (([] : List (S42)), 5)) else (vinculumref09_Get.l0 k x0 x4 t635 (wrap64 (x6 + 1))))))))) else (if x5 = 65535 then (vinculumref09_Get.l1 k x0 x4 ([] : List (S42)) 0) else (some (([] : List (S42)), 5)))
def vinculumref09_Get.l1 : Nat → ByteArray → Int → List (S42) → Int → Option ((List (S42)) × Int)
  | 0, _, _, _, _ => none
  | k + 1, x0, x4, x9, x10 => if x10 < x4 then ((vinculumref09_word.f k x0 (wrap64 (14 + (wrap64 (2 * x10))))).bind fun t638 => ((vinculumref09_word.f k x0 (wrap64 ((wrap64 (16 + (wrap64 (2 * x4)))) + (wrap64 (2 * x10))))).bind fun t639 => ((vinculumref09_word.f k x0 (wrap64 ((wrap64 (16 + (wrap64 (4 * x4)))) + (wrap64 (2 * x10))))).bind fun t640 => ((vinculumref09_word.f k x0 (wrap64 ((wrap64 (16 + (wrap64 (6 * x4)))) + (wrap64 (2 * x10))))).bind fun t641 => (if t641 = 0 then ((vinculumref09_near.f t639 t638 t640).bind fun t642 => (if x9.length + t642.length < 4398046511104 then (vinculumref09_Get.l1 k x0 x4 (x9 ++ t642) (wrap64 (x10 + 1))) else (none))) else ((vinculumref09_far.f k x0 t639 t638 t640 (wrap64 ((wrap64 (16 + (wrap64 (6 * x4)))) + (wrap64 (2 * x10))))).bind fun bt648 => (if bt648.2 = 0 then (if x9.length + bt648.1.length < 4398046511104 then (vinculumref09_Get.l1 k x0 x4 (x9 ++ bt648.1) (wrap64 (x10 + 1))) else (none)) else (some (([] : List (S42)), bt648.2))))))))) else (some (x9, 0))
end
def vinculumref09_Get.f (k : Nat) (a0 : ByteArray) : Option ((List (S42)) × Int) := if (a0.size : Int) < 14 then (some (([] : List (S42)), 4)) else ((vinculumref09_word.f k a0 6).bind fun t629 => ((vinculumref09_word.f k a0 0).bind fun t630 => (if t630 = 4 then ((vinculumref09_word.f k a0 6).bind fun t631 => (if (Int.tmod t631 2) = 1 then (vinculumref09_Get.j0 k a0 (wrap64 (Int.tdiv t629 2)) true) else (vinculumref09_Get.j0 k a0 (wrap64 (Int.tdiv t629 2)) ((wrap64 (Int.tdiv t629 2)) == 0)))) else (vinculumref09_Get.j0 k a0 (wrap64 (Int.tdiv t629 2)) true))))
set_option maxHeartbeats 8000000 in
set_option maxRecDepth 100000 in
theorem vinculumref09_Get.calls (k : Nat) (a0 : ByteArray) (r1 : List (S42)) (r2 : Int) (w : World) (h : vinculumref09_Get.f k a0 = some (r1, r2)) :
    Calls Try.prog 50 #[.string a0] w fun e w' => ∃ v0_ : Value, e = .returned (.tuple #[v0_, .int .i64 r2]) ∧ Kd.R k42 42 w' w.heap.size (fun _ => True) v0_ r1 ∧ Below w.heap.size w w' := by
  have HB := Aside0.mk (Below.refl w.heap.size w)
  have H : (if (a0.size : Int) < 14 then (some (([] : List (S42)), 4)) else ((vinculumref09_word.f k a0 6).bind fun t629 => ((vinculumref09_word.f k a0 0).bind fun t630 => (if t630 = 4 then ((vinculumref09_word.f k a0 6).bind fun t631 => (if (Int.tmod t631 2) = 1 then (vinculumref09_Get.j0 k a0 (wrap64 (Int.tdiv t629 2)) true) else (vinculumref09_Get.j0 k a0 (wrap64 (Int.tdiv t629 2)) ((wrap64 (Int.tdiv t629 2)) == 0)))) else (vinculumref09_Get.j0 k a0 (wrap64 (Int.tdiv t629 2)) true))))) = some (r1, r2) := h
  clear h
  by_cases c2 : (a0.size : Int) < 14
  · rw [if_pos c2] at H
    have c2b0 : decide ((a0.size : Int) < 14) = true := decide_eq_true c2
    have c2b1 : decide (a0.size < 14) = true := decide_eq_true (by omega)
    clear c2
    simp only [Option.some.injEq, Prod.mk.injEq] at H
    obtain ⟨rfl, rfl⟩ := H
    go_enter Try.func50, Try.ntmps50
    go_wp2
    go_ret2
    exact ⟨_, by first | rfl | (simp [errW_none, errW_some] <;> rfl) | (simp [*, errW_none, errW_some] <;> rfl), by first | exact Kd.R_nil _ _ _ _ _ | exact Kd.N_nil _ _ _ _ _ | exact Kd.V_nil _ _ _ _ _ | exact Kd.Q_nil _ _ _ _ _ | exact Kd.S_nil _ _ _ _ _, by repeat (first | (with_reducible first | exact HB.out | apply below_alloc | apply pw_below_drewN | apply below_drew1) | exact HB.out)⟩
  · rw [if_neg c2] at H
    have c2b0 : decide ((a0.size : Int) < 14) = false := decide_eq_false c2
    have c2b1 : decide (a0.size < 14) = false := decide_eq_false (by omega)
    clear c2
    replace H := Option.bind_eq_some_iff.mp H
    obtain ⟨t629, A30, H⟩ := H
    replace H : ((vinculumref09_word.f k a0 0).bind fun t630 => (if t630 = 4 then ((vinculumref09_word.f k a0 6).bind fun t631 => (if (Int.tmod t631 2) = 1 then (vinculumref09_Get.j0 k a0 (wrap64 (Int.tdiv t629 2)) true) else (vinculumref09_Get.j0 k a0 (wrap64 (Int.tdiv t629 2)) ((wrap64 (Int.tdiv t629 2)) == 0)))) else (vinculumref09_Get.j0 k a0 (wrap64 (Int.tdiv t629 2)) true))) = some (r1, r2) := H
    have A3 := Aside0.mk A30
    clear A30
    have HC4 := Aside0.mk H
    clear H
    go_enter Try.func50, Try.ntmps50
    go_upto_region 4 with (first | ((with_reducible refine gate_callee (f := 87) rfl ?_); refine goesL_ (some 21) rfl rfl Try.func87 (by kernel_rfl) rfl #[.string a0, .int .i64 6] rfl (by (try simp only [List.map_toArray, List.map_cons, List.map_nil]); first | done | rfl | (simp only [List.length_drop, List.length_take]; rfl)) ?_; (with_reducible refine (vinculumref09_word.calls k a0 6 t629 _ A3.out).mono ?_); rintro e w' ⟨rfl, ⟨nd, rfl⟩⟩; refine ⟨_, rfl, ?_⟩))
    (try simp only [Act.put, List.setIfInBounds_toArray, List.set_cons_zero, List.set_cons_succ])
    go_cut [35] (fun v35 wc => ∃ (kq : Nat) (x35_3 : Bool), v35 = .bool x35_3 ∧ Aside0 (vinculumref09_Get.j0 kq a0 (wrap64 (Int.tdiv t629 2)) x35_3 = some (r1, r2)) ∧ Aside0 (kq ≤ k) ∧ Aside0 (Below w.heap.size w wc))
    case first =>
      have H := HC4.out
      clear HC4
      replace H := Option.bind_eq_some_iff.mp H
      obtain ⟨t630, A50, H⟩ := H
      replace H : (if t630 = 4 then ((vinculumref09_word.f k a0 6).bind fun t631 => (if (Int.tmod t631 2) = 1 then (vinculumref09_Get.j0 k a0 (wrap64 (Int.tdiv t629 2)) true) else (vinculumref09_Get.j0 k a0 (wrap64 (Int.tdiv t629 2)) ((wrap64 (Int.tdiv t629 2)) == 0)))) else (vinculumref09_Get.j0 k a0 (wrap64 (Int.tdiv t629 2)) true)) = some (r1, r2) := H
      have A5 := Aside0.mk A50
      clear A50
      by_cases c6 : t630 = 4
      · rw [if_pos c6] at H
        have c6b0 : (t630 == 4) = true := beq_iff_eq.mpr c6
        have c6b1 : (t630 != 4) = false := bne_eq_false_iff_eq.mpr c6
        clear c6
        (first | rw [c6b0] | (simp only [i64_w, i32_w]; rw [c6b0]) | skip)
        replace H := Option.bind_eq_some_iff.mp H
        obtain ⟨t631, A70, H⟩ := H
        replace H : (if (Int.tmod t631 2) = 1 then (vinculumref09_Get.j0 k a0 (wrap64 (Int.tdiv t629 2)) true) else (vinculumref09_Get.j0 k a0 (wrap64 (Int.tdiv t629 2)) ((wrap64 (Int.tdiv t629 2)) == 0))) = some (r1, r2) := H
        have A7 := Aside0.mk A70
        clear A70
        by_cases c8 : (Int.tmod t631 2) = 1
        · rw [if_pos c8] at H
          have c8b0 : ((Int.tmod t631 2) == 1) = true := beq_iff_eq.mpr c8
          have c8b1 : ((Int.tmod t631 2) != 1) = false := bne_eq_false_iff_eq.mpr c8
          clear c8
          have H' := Aside0.mk H
          clear H
          go_wp2_with (first | ((with_reducible refine gate_callee (f := 87) rfl ?_); refine goesL_ (some 24) rfl rfl Try.func87 (by kernel_rfl) rfl #[.string a0, .int .i64 0] rfl (by (try simp only [List.map_toArray, List.map_cons, List.map_nil]); first | done | rfl | (simp only [List.length_drop, List.length_take]; rfl)) ?_; (with_reducible refine (vinculumref09_word.calls k a0 0 t630 _ A5.out).mono ?_); rintro e w' ⟨rfl, ⟨nd, rfl⟩⟩; refine ⟨_, rfl, ?_⟩) | (go_at_call 87; (with_reducible refine (vinculumref09_word.calls k a0 6 t631 _ A7.out).mono ?_); rintro e w' ⟨rfl, ⟨nd, rfl⟩⟩))
          go_meet
          case rel => exact ⟨_, (true), (by first | rfl | (simp; done) | (simp [*]; done)), H', ⟨by first | omega | exact Nat.le_refl _⟩, ⟨by repeat (first | (with_reducible first | exact HB.out | apply below_alloc | apply pw_below_drewN | apply below_drew1) | exact HB.out)⟩⟩
        · rw [if_neg c8] at H
          have c8b0 : ((Int.tmod t631 2) == 1) = false := beq_eq_false_iff_ne.mpr c8
          have c8b1 : ((Int.tmod t631 2) != 1) = true := bne_iff_ne.mpr c8
          have H' := Aside0.mk H
          clear H
          go_wp2_with (first | ((with_reducible refine gate_callee (f := 87) rfl ?_); refine goesL_ (some 24) rfl rfl Try.func87 (by kernel_rfl) rfl #[.string a0, .int .i64 0] rfl (by (try simp only [List.map_toArray, List.map_cons, List.map_nil]); first | done | rfl | (simp only [List.length_drop, List.length_take]; rfl)) ?_; (with_reducible refine (vinculumref09_word.calls k a0 0 t630 _ A5.out).mono ?_); rintro e w' ⟨rfl, ⟨nd, rfl⟩⟩; refine ⟨_, rfl, ?_⟩) | (go_at_call 87; (with_reducible refine (vinculumref09_word.calls k a0 6 t631 _ A7.out).mono ?_); rintro e w' ⟨rfl, ⟨nd, rfl⟩⟩))
          go_meet
          case rel => exact ⟨_, (((wrap64 (Int.tdiv t629 2)) == 0)), (by first | rfl | (simp; done) | (simp [*]; done)), H', ⟨by first | omega | exact Nat.le_refl _⟩, ⟨by repeat (first | (with_reducible first | exact HB.out | apply below_alloc | apply pw_below_drewN | apply below_drew1) | exact HB.out)⟩⟩
      · rw [if_neg c6] at H
        have c6b0 : (t630 == 4) = false := beq_eq_false_iff_ne.mpr c6
        have c6b1 : (t630 != 4) = true := bne_iff_ne.mpr c6
        (first | rw [c6b0] | (simp only [i64_w, i32_w]; rw [c6b0]) | skip)
        have H' := Aside0.mk H
        clear H
        go_wp2_with (first | ((with_reducible refine gate_callee (f := 87) rfl ?_); refine goesL_ (some 24) rfl rfl Try.func87 (by kernel_rfl) rfl #[.string a0, .int .i64 0] rfl (by (try simp only [List.map_toArray, List.map_cons, List.map_nil]); first | done | rfl | (simp only [List.length_drop, List.length_take]; rfl)) ?_; (with_reducible refine (vinculumref09_word.calls k a0 0 t630 _ A5.out).mono ?_); rintro e w' ⟨rfl, ⟨nd, rfl⟩⟩; refine ⟨_, rfl, ?_⟩))
        go_meet
        case rel => exact ⟨_, (true), (by first | rfl | (simp; done) | (simp [*]; done)), H', ⟨by first | omega | exact Nat.le_refl _⟩, ⟨by repeat (first | (with_reducible first | exact HB.out | apply below_alloc | apply pw_below_drewN | apply below_drew1) | exact HB.out)⟩⟩
    case rest =>
      clear HC4
      try clear c2
      try clear c2b0
      try clear c2b1
      try clear p2
      try clear c5
      try clear c6
      try clear c6b0
      try clear c6b1
      try clear p6
      try clear c8
      try clear c8b0
      try clear c8b1
      obtain ⟨kq, x35_3, rfl, HA, HJ3, HB⟩ := hcut
      cases kq with
      | zero => exact absurd HA.out (by simp [vinculumref09_Get.j0])
      | succ kj3 =>
        have H := HA.out
        clear HA
        simp only [vinculumref09_Get.j0] at H
        by_cases c9 : x35_3 = true
        · subst c9
          have H1 : (some (([] : List (S42)), 5)) = some (r1, r2) := by rw [if_pos rfl] at H; exact H
          clear H
          have H := H1
          clear H1
          simp only [Option.some.injEq, Prod.mk.injEq] at H
          obtain ⟨rfl, rfl⟩ := H
          go_wp2
          go_ret2
          exact ⟨_, by first | rfl | (simp [errW_none, errW_some] <;> rfl) | (simp [*, errW_none, errW_some] <;> rfl), by first | exact Kd.R_nil _ _ _ _ _ | exact Kd.N_nil _ _ _ _ _ | exact Kd.V_nil _ _ _ _ _ | exact Kd.Q_nil _ _ _ _ _ | exact Kd.S_nil _ _ _ _ _, by repeat (first | (with_reducible first | exact HB.out | apply below_alloc | apply pw_below_drewN | apply below_drew1) | exact HB.out)⟩
        · replace c9 := Bool.eq_false_iff.mpr c9
          subst c9
          have H1 : ((vinculumref09_word.f kj3 a0 2).bind fun t632 => (if t632 > (a0.size : Int) then (some (([] : List (S42)), 4)) else ((vinculumref09_word.f kj3 a0 2).bind fun t633 => (if t633 < (wrap64 (16 + (wrap64 (8 * (wrap64 (Int.tdiv t629 2)))))) then (some (([] : List (S42)), 5)) else ((vinculumref09_word.f kj3 a0 2).bind fun t634 => (if 0 ≤ t634 then (if t634 ≤ (a0.size : Int) then (vinculumref09_Get.l0 kj3 (a0.extract 0 (t634 : Int).toNat) (wrap64 (Int.tdiv t629 2)) (-1) 0) else (none)) else (none))))))) = some (r1, r2) := by rw [if_neg (show ¬ (false = true) by decide)] at H; exact H
          clear H
          have H := H1
          clear H1
          replace H := Option.bind_eq_some_iff.mp H
          obtain ⟨t632, A100, H⟩ := H
          replace H : (if t632 > (a0.size : Int) then (some (([] : List (S42)), 4)) else ((vinculumref09_word.f kj3 a0 2).bind fun t633 => (if t633 < (wrap64 (16 + (wrap64 (8 * (wrap64 (Int.tdiv t629 2)))))) then (some (([] : List (S42)), 5)) else ((vinculumref09_word.f kj3 a0 2).bind fun t634 => (if 0 ≤ t634 then (if t634 ≤ (a0.size : Int) then (vinculumref09_Get.l0 kj3 (a0.extract 0 (t634 : Int).toNat) (wrap64 (Int.tdiv t629 2)) (-1) 0) else (none)) else (none)))))) = some (r1, r2) := H
          have A10 := Aside0.mk A100
          clear A100
          by_cases c11 : t632 > (a0.size : Int)
          · rw [if_pos c11] at H
            have c11b0 : decide ((a0.size : Int) < t632) = true := decide_eq_true c11
            clear c11
            simp only [Option.some.injEq, Prod.mk.injEq] at H
            obtain ⟨rfl, rfl⟩ := H
            go_wp2_with (first | ((with_reducible refine gate_callee (f := 87) rfl ?_); refine goesL_ (some 37) rfl rfl Try.func87 (by kernel_rfl) rfl #[.string a0, .int .i64 2] rfl (by (try simp only [List.map_toArray, List.map_cons, List.map_nil]); first | done | rfl | (simp only [List.length_drop, List.length_take]; rfl)) ?_; (with_reducible refine (vinculumref09_word.calls kj3 a0 2 t632 _ A10.out).mono ?_); rintro e w' ⟨rfl, ⟨nd, rfl⟩⟩; refine ⟨_, rfl, ?_⟩))
            go_ret2
            exact ⟨_, by first | rfl | (simp [errW_none, errW_some] <;> rfl) | (simp [*, errW_none, errW_some] <;> rfl), by first | exact Kd.R_nil _ _ _ _ _ | exact Kd.N_nil _ _ _ _ _ | exact Kd.V_nil _ _ _ _ _ | exact Kd.Q_nil _ _ _ _ _ | exact Kd.S_nil _ _ _ _ _, by repeat (first | (with_reducible first | exact HB.out | apply below_alloc | apply pw_below_drewN | apply below_drew1) | exact HB.out)⟩
          · rw [if_neg c11] at H
            have c11b0 : decide ((a0.size : Int) < t632) = false := decide_eq_false c11
            clear c11
            replace H := Option.bind_eq_some_iff.mp H
            obtain ⟨t633, A120, H⟩ := H
            replace H : (if t633 < (wrap64 (16 + (wrap64 (8 * (wrap64 (Int.tdiv t629 2)))))) then (some (([] : List (S42)), 5)) else ((vinculumref09_word.f kj3 a0 2).bind fun t634 => (if 0 ≤ t634 then (if t634 ≤ (a0.size : Int) then (vinculumref09_Get.l0 kj3 (a0.extract 0 (t634 : Int).toNat) (wrap64 (Int.tdiv t629 2)) (-1) 0) else (none)) else (none)))) = some (r1, r2) := H
            have A12 := Aside0.mk A120
            clear A120
            by_cases c13 : t633 < (wrap64 (16 + (wrap64 (8 * (wrap64 (Int.tdiv t629 2))))))
            · rw [if_pos c13] at H
              have c13b0 : decide (t633 < (wrap64 (16 + (wrap64 (8 * (wrap64 (Int.tdiv t629 2))))))) = true := decide_eq_true c13
              clear c13
              simp only [Option.some.injEq, Prod.mk.injEq] at H
              obtain ⟨rfl, rfl⟩ := H
              go_wp2_with (first | ((with_reducible refine gate_callee (f := 87) rfl ?_); refine goesL_ (some 37) rfl rfl Try.func87 (by kernel_rfl) rfl #[.string a0, .int .i64 2] rfl (by (try simp only [List.map_toArray, List.map_cons, List.map_nil]); first | done | rfl | (simp only [List.length_drop, List.length_take]; rfl)) ?_; (with_reducible refine (vinculumref09_word.calls kj3 a0 2 t632 _ A10.out).mono ?_); rintro e w' ⟨rfl, ⟨nd, rfl⟩⟩; refine ⟨_, rfl, ?_⟩) | ((with_reducible refine gate_callee (f := 87) rfl ?_); refine goesL_ (some 42) rfl rfl Try.func87 (by kernel_rfl) rfl #[.string a0, .int .i64 2] rfl (by (try simp only [List.map_toArray, List.map_cons, List.map_nil]); first | done | rfl | (simp only [List.length_drop, List.length_take]; rfl)) ?_; (with_reducible refine (vinculumref09_word.calls kj3 a0 2 t633 _ A12.out).mono ?_); rintro e w' ⟨rfl, ⟨nd, rfl⟩⟩; refine ⟨_, rfl, ?_⟩))
              go_ret2
              exact ⟨_, by first | rfl | (simp [errW_none, errW_some] <;> rfl) | (simp [*, errW_none, errW_some] <;> rfl), by first | exact Kd.R_nil _ _ _ _ _ | exact Kd.N_nil _ _ _ _ _ | exact Kd.V_nil _ _ _ _ _ | exact Kd.Q_nil _ _ _ _ _ | exact Kd.S_nil _ _ _ _ _, by repeat (first | (with_reducible first | exact HB.out | apply below_alloc | apply pw_below_drewN | apply below_drew1) | exact HB.out)⟩
            · rw [if_neg c13] at H
              have c13b0 : decide (t633 < (wrap64 (16 + (wrap64 (8 * (wrap64 (Int.tdiv t629 2))))))) = false := decide_eq_false c13
              clear c13
              replace H := Option.bind_eq_some_iff.mp H
              obtain ⟨t634, A140, H⟩ := H
              replace H : (if 0 ≤ t634 then (if t634 ≤ (a0.size : Int) then (vinculumref09_Get.l0 kj3 (a0.extract 0 (t634 : Int).toNat) (wrap64 (Int.tdiv t629 2)) (-1) 0) else (none)) else (none)) = some (r1, r2) := H
              have A14 := Aside0.mk A140
              clear A140
              by_cases c15 : 0 ≤ t634
              · rw [if_pos c15] at H
                have c15b0 := eq_true c15
                have c15b1 : decide (0 ≤ t634) = true := decide_eq_true c15
                clear c15
                by_cases c16 : t634 ≤ (a0.size : Int)
                · rw [if_pos c16] at H
                  have c16b0 := eq_true c16
                  have c16b1 : decide (t634 ≤ (a0.size : Int)) = true := decide_eq_true c16
                  clear c16
                  have H' := Aside0.mk H
                  clear H
                  go_wp2_with (first | ((with_reducible refine gate_callee (f := 87) rfl ?_); refine goesL_ (some 37) rfl rfl Try.func87 (by kernel_rfl) rfl #[.string a0, .int .i64 2] rfl (by (try simp only [List.map_toArray, List.map_cons, List.map_nil]); first | done | rfl | (simp only [List.length_drop, List.length_take]; rfl)) ?_; (with_reducible refine (vinculumref09_word.calls kj3 a0 2 t632 _ A10.out).mono ?_); rintro e w' ⟨rfl, ⟨nd, rfl⟩⟩; refine ⟨_, rfl, ?_⟩) | ((with_reducible refine gate_callee (f := 87) rfl ?_); refine goesL_ (some 42) rfl rfl Try.func87 (by kernel_rfl) rfl #[.string a0, .int .i64 2] rfl (by (try simp only [List.map_toArray, List.map_cons, List.map_nil]); first | done | rfl | (simp only [List.length_drop, List.length_take]; rfl)) ?_; (with_reducible refine (vinculumref09_word.calls kj3 a0 2 t633 _ A12.out).mono ?_); rintro e w' ⟨rfl, ⟨nd, rfl⟩⟩; refine ⟨_, rfl, ?_⟩) | ((with_reducible refine gate_callee (f := 87) rfl ?_); refine goesL_ (some 49) rfl rfl Try.func87 (by kernel_rfl) rfl #[.string a0, .int .i64 2] rfl (by (try simp only [List.map_toArray, List.map_cons, List.map_nil]); first | done | rfl | (simp only [List.length_drop, List.length_take]; rfl)) ?_; (with_reducible refine (vinculumref09_word.calls kj3 a0 2 t634 _ A14.out).mono ?_); rintro e w' ⟨rfl, ⟨nd, rfl⟩⟩; refine ⟨_, rfl, ?_⟩))
                  go_loopg [5, 6] kj3 (fun kq v5 v6 w' => ∃ (x5_2 : Int) (x6_2 : Int), v5 = .int .i64 x5_2 ∧ v6 = .int .i64 x6_2 ∧ Aside0 (vinculumref09_Get.l0 kq (a0.extract 0 (t634 : Int).toNat) (wrap64 (Int.tdiv t629 2)) x5_2 x6_2 = some (r1, r2)) ∧ Aside0 (kq ≤ kj3) ∧ Aside0 (Below w.heap.size w w'))
                  case atStart => exact ⟨((-1)), (0), (by first | rfl | (simp; done) | (simp [*]; done)), (by first | rfl | (simp; done) | (simp [*]; done)), H', ⟨Nat.le_refl _⟩, ⟨by repeat (first | (with_reducible first | exact HB.out | apply below_alloc | apply pw_below_drewN | apply below_drew1) | exact HB.out)⟩⟩
                  case round =>
                    clear H'
                    try clear c1
                    try clear c2
                    try clear c2b0
                    try clear c2b1
                    try clear p2
                    try clear c5
                    try clear c6
                    try clear c6b0
                    try clear c6b1
                    try clear p6
                    try clear c8
                    try clear c8b0
                    try clear c8b1
                    try clear c9
                    try clear c11
                    try clear c11b0
                    try clear c13
                    try clear c13b0
                    try clear c15
                    try clear c15b0
                    try clear c15b1
                    try clear c16
                    try clear c16b0
                    try clear c16b1
                    try clear p2
                    try clear p6
                    obtain ⟨x5_2, x6_2, rfl, rfl, HA, HK2, HB⟩ := hrel
                    cases gk with
                    | zero => exact absurd HA.out (by simp [vinculumref09_Get.l0])
                    | succ k2 =>
                      have H := HA.out
                      clear HA
                      simp only [vinculumref09_Get.l0] at H
                      by_cases c17 : x6_2 < (wrap64 (Int.tdiv t629 2))
                      · rw [if_pos c17] at H
                        have c17b0 : decide (x6_2 < (wrap64 (Int.tdiv t629 2))) = true := decide_eq_true c17
                        clear c17
                        replace H := Option.bind_eq_some_iff.mp H
                        obtain ⟨t635, A180, H⟩ := H
                        replace H : ((vinculumref09_word.f k2 (a0.extract 0 (t634 : Int).toNat) (wrap64 ((wrap64 (16 + (wrap64 (2 * (wrap64 (Int.tdiv t629 2)))))) + (wrap64 (2 * x6_2))))).bind fun t636 => (if t636 > t635 then (some (([] : List (S42)), 5)) else (if t636 ≤ x5_2 then (some (([] : List (S42)), 5)) else ((vinculumref09_word.f k2 (a0.extract 0 (t634 : Int).toNat) (wrap64 ((wrap64 (16 + (wrap64 (6 * (wrap64 (Int.tdiv t629 2)))))) + (wrap64 (2 * x6_2))))).bind fun t637 => (if (Int.tmod t637 2) = 1 then (some (([] : List (S42)), 5)) else (vinculumref09_Get.l0 k2 (a0.extract 0 (t634 : Int).toNat) (wrap64 (Int.tdiv t629 2)) t635 (wrap64 (x6_2 + 1)))))))) = some (r1, r2) := H
                        have A18 := Aside0.mk A180
                        clear A180
                        replace H := Option.bind_eq_some_iff.mp H
                        obtain ⟨t636, A190, H⟩ := H
                        replace H : (if t636 > t635 then (some (([] : List (S42)), 5)) else (if t636 ≤ x5_2 then (some (([] : List (S42)), 5)) else ((vinculumref09_word.f k2 (a0.extract 0 (t634 : Int).toNat) (wrap64 ((wrap64 (16 + (wrap64 (6 * (wrap64 (Int.tdiv t629 2)))))) + (wrap64 (2 * x6_2))))).bind fun t637 => (if (Int.tmod t637 2) = 1 then (some (([] : List (S42)), 5)) else (vinculumref09_Get.l0 k2 (a0.extract 0 (t634 : Int).toNat) (wrap64 (Int.tdiv t629 2)) t635 (wrap64 (x6_2 + 1))))))) = some (r1, r2) := H
                        have A19 := Aside0.mk A190
                        clear A190
                        by_cases c20 : t636 > t635
                        · rw [if_pos c20] at H
                          have c20b0 : decide (t635 < t636) = true := decide_eq_true c20
                          clear c20
                          simp only [Option.some.injEq, Prod.mk.injEq] at H
                          obtain ⟨rfl, rfl⟩ := H
                          go_wp2_with (first | ((with_reducible refine gate_callee (f := 87) rfl ?_); refine goesL_ (some 60) rfl rfl Try.func87 (by kernel_rfl) rfl #[.string (a0.extract 0 (t634 : Int).toNat), .int .i64 (wrap64 (14 + (wrap64 (2 * x6_2))))] rfl (by (try simp only [List.map_toArray, List.map_cons, List.map_nil]); first | done | rfl | (simp only [List.length_drop, List.length_take]; rfl)) ?_; (with_reducible refine (vinculumref09_word.calls k2 (a0.extract 0 (t634 : Int).toNat) (wrap64 (14 + (wrap64 (2 * x6_2)))) t635 _ A18.out).mono ?_); rintro e w' ⟨rfl, ⟨nd, rfl⟩⟩; refine ⟨_, rfl, ?_⟩) | ((with_reducible refine gate_callee (f := 87) rfl ?_); refine goesL_ (some 68) rfl rfl Try.func87 (by kernel_rfl) rfl #[.string (a0.extract 0 (t634 : Int).toNat), .int .i64 (wrap64 ((wrap64 (16 + (wrap64 (2 * (wrap64 (Int.tdiv t629 2)))))) + (wrap64 (2 * x6_2))))] rfl (by (try simp only [List.map_toArray, List.map_cons, List.map_nil]); first | done | rfl | (simp only [List.length_drop, List.length_take]; rfl)) ?_; (with_reducible refine (vinculumref09_word.calls k2 (a0.extract 0 (t634 : Int).toNat) (wrap64 ((wrap64 (16 + (wrap64 (2 * (wrap64 (Int.tdiv t629 2)))))) + (wrap64 (2 * x6_2)))) t636 _ A19.out).mono ?_); rintro e w' ⟨rfl, ⟨nd, rfl⟩⟩; refine ⟨_, rfl, ?_⟩))
                          go_ret2
                          exact ⟨_, by first | rfl | (simp [errW_none, errW_some] <;> rfl) | (simp [*, errW_none, errW_some] <;> rfl), by first | exact Kd.R_nil _ _ _ _ _ | exact Kd.N_nil _ _ _ _ _ | exact Kd.V_nil _ _ _ _ _ | exact Kd.Q_nil _ _ _ _ _ | exact Kd.S_nil _ _ _ _ _, by repeat (first | (with_reducible first | exact HB.out | apply below_alloc | apply pw_below_drewN | apply below_drew1) | exact HB.out)⟩
                        · rw [if_neg c20] at H
                          have c20b0 : decide (t635 < t636) = false := decide_eq_false c20
                          clear c20
                          by_cases c21 : t636 ≤ x5_2
                          · rw [if_pos c21] at H
                            have c21b0 : decide (t636 ≤ x5_2) = true := decide_eq_true c21
                            clear c21
                            simp only [Option.some.injEq, Prod.mk.injEq] at H
                            obtain ⟨rfl, rfl⟩ := H
                            go_wp2_with (first | ((with_reducible refine gate_callee (f := 87) rfl ?_); refine goesL_ (some 60) rfl rfl Try.func87 (by kernel_rfl) rfl #[.string (a0.extract 0 (t634 : Int).toNat), .int .i64 (wrap64 (14 + (wrap64 (2 * x6_2))))] rfl (by (try simp only [List.map_toArray, List.map_cons, List.map_nil]); first | done | rfl | (simp only [List.length_drop, List.length_take]; rfl)) ?_; (with_reducible refine (vinculumref09_word.calls k2 (a0.extract 0 (t634 : Int).toNat) (wrap64 (14 + (wrap64 (2 * x6_2)))) t635 _ A18.out).mono ?_); rintro e w' ⟨rfl, ⟨nd, rfl⟩⟩; refine ⟨_, rfl, ?_⟩) | ((with_reducible refine gate_callee (f := 87) rfl ?_); refine goesL_ (some 68) rfl rfl Try.func87 (by kernel_rfl) rfl #[.string (a0.extract 0 (t634 : Int).toNat), .int .i64 (wrap64 ((wrap64 (16 + (wrap64 (2 * (wrap64 (Int.tdiv t629 2)))))) + (wrap64 (2 * x6_2))))] rfl (by (try simp only [List.map_toArray, List.map_cons, List.map_nil]); first | done | rfl | (simp only [List.length_drop, List.length_take]; rfl)) ?_; (with_reducible refine (vinculumref09_word.calls k2 (a0.extract 0 (t634 : Int).toNat) (wrap64 ((wrap64 (16 + (wrap64 (2 * (wrap64 (Int.tdiv t629 2)))))) + (wrap64 (2 * x6_2)))) t636 _ A19.out).mono ?_); rintro e w' ⟨rfl, ⟨nd, rfl⟩⟩; refine ⟨_, rfl, ?_⟩))
                            go_ret2
                            exact ⟨_, by first | rfl | (simp [errW_none, errW_some] <;> rfl) | (simp [*, errW_none, errW_some] <;> rfl), by first | exact Kd.R_nil _ _ _ _ _ | exact Kd.N_nil _ _ _ _ _ | exact Kd.V_nil _ _ _ _ _ | exact Kd.Q_nil _ _ _ _ _ | exact Kd.S_nil _ _ _ _ _, by repeat (first | (with_reducible first | exact HB.out | apply below_alloc | apply pw_below_drewN | apply below_drew1) | exact HB.out)⟩
                          · rw [if_neg c21] at H
                            have c21b0 : decide (t636 ≤ x5_2) = false := decide_eq_false c21
                            clear c21
                            replace H := Option.bind_eq_some_iff.mp H
                            obtain ⟨t637, A220, H⟩ := H
                            replace H : (if (Int.tmod t637 2) = 1 then (some (([] : List (S42)), 5)) else (vinculumref09_Get.l0 k2 (a0.extract 0 (t634 : Int).toNat) (wrap64 (Int.tdiv t629 2)) t635 (wrap64 (x6_2 + 1)))) = some (r1, r2) := H
                            have A22 := Aside0.mk A220
                            clear A220
                            by_cases c23 : (Int.tmod t637 2) = 1
                            · rw [if_pos c23] at H
                              have c23b0 : ((Int.tmod t637 2) == 1) = true := beq_iff_eq.mpr c23
                              have c23b1 : ((Int.tmod t637 2) != 1) = false := bne_eq_false_iff_eq.mpr c23
                              clear c23
                              simp only [Option.some.injEq, Prod.mk.injEq] at H
                              obtain ⟨rfl, rfl⟩ := H
                              go_wp2_with (first | ((with_reducible refine gate_callee (f := 87) rfl ?_); refine goesL_ (some 60) rfl rfl Try.func87 (by kernel_rfl) rfl #[.string (a0.extract 0 (t634 : Int).toNat), .int .i64 (wrap64 (14 + (wrap64 (2 * x6_2))))] rfl (by (try simp only [List.map_toArray, List.map_cons, List.map_nil]); first | done | rfl | (simp only [List.length_drop, List.length_take]; rfl)) ?_; (with_reducible refine (vinculumref09_word.calls k2 (a0.extract 0 (t634 : Int).toNat) (wrap64 (14 + (wrap64 (2 * x6_2)))) t635 _ A18.out).mono ?_); rintro e w' ⟨rfl, ⟨nd, rfl⟩⟩; refine ⟨_, rfl, ?_⟩) | ((with_reducible refine gate_callee (f := 87) rfl ?_); refine goesL_ (some 68) rfl rfl Try.func87 (by kernel_rfl) rfl #[.string (a0.extract 0 (t634 : Int).toNat), .int .i64 (wrap64 ((wrap64 (16 + (wrap64 (2 * (wrap64 (Int.tdiv t629 2)))))) + (wrap64 (2 * x6_2))))] rfl (by (try simp only [List.map_toArray, List.map_cons, List.map_nil]); first | done | rfl | (simp only [List.length_drop, List.length_take]; rfl)) ?_; (with_reducible refine (vinculumref09_word.calls k2 (a0.extract 0 (t634 : Int).toNat) (wrap64 ((wrap64 (16 + (wrap64 (2 * (wrap64 (Int.tdiv t629 2)))))) + (wrap64 (2 * x6_2)))) t636 _ A19.out).mono ?_); rintro e w' ⟨rfl, ⟨nd, rfl⟩⟩; refine ⟨_, rfl, ?_⟩) | (go_at_call 87; (with_reducible refine (vinculumref09_word.calls k2 (a0.extract 0 (t634 : Int).toNat) (wrap64 ((wrap64 (16 + (wrap64 (6 * (wrap64 (Int.tdiv t629 2)))))) + (wrap64 (2 * x6_2)))) t637 _ A22.out).mono ?_); rintro e w' ⟨rfl, ⟨nd, rfl⟩⟩))
                              go_ret2
                              exact ⟨_, by first | rfl | (simp [errW_none, errW_some] <;> rfl) | (simp [*, errW_none, errW_some] <;> rfl), by first | exact Kd.R_nil _ _ _ _ _ | exact Kd.N_nil _ _ _ _ _ | exact Kd.V_nil _ _ _ _ _ | exact Kd.Q_nil _ _ _ _ _ | exact Kd.S_nil _ _ _ _ _, by repeat (first | (with_reducible first | exact HB.out | apply below_alloc | apply pw_below_drewN | apply below_drew1) | exact HB.out)⟩
                            · rw [if_neg c23] at H
                              have c23b0 : ((Int.tmod t637 2) == 1) = false := beq_eq_false_iff_ne.mpr c23
                              have c23b1 : ((Int.tmod t637 2) != 1) = true := bne_iff_ne.mpr c23
                              have H' := Aside0.mk H
                              clear H
                              go_wp2_with (first | ((with_reducible refine gate_callee (f := 87) rfl ?_); refine goesL_ (some 60) rfl rfl Try.func87 (by kernel_rfl) rfl #[.string (a0.extract 0 (t634 : Int).toNat), .int .i64 (wrap64 (14 + (wrap64 (2 * x6_2))))] rfl (by (try simp only [List.map_toArray, List.map_cons, List.map_nil]); first | done | rfl | (simp only [List.length_drop, List.length_take]; rfl)) ?_; (with_reducible refine (vinculumref09_word.calls k2 (a0.extract 0 (t634 : Int).toNat) (wrap64 (14 + (wrap64 (2 * x6_2)))) t635 _ A18.out).mono ?_); rintro e w' ⟨rfl, ⟨nd, rfl⟩⟩; refine ⟨_, rfl, ?_⟩) | ((with_reducible refine gate_callee (f := 87) rfl ?_); refine goesL_ (some 68) rfl rfl Try.func87 (by kernel_rfl) rfl #[.string (a0.extract 0 (t634 : Int).toNat), .int .i64 (wrap64 ((wrap64 (16 + (wrap64 (2 * (wrap64 (Int.tdiv t629 2)))))) + (wrap64 (2 * x6_2))))] rfl (by (try simp only [List.map_toArray, List.map_cons, List.map_nil]); first | done | rfl | (simp only [List.length_drop, List.length_take]; rfl)) ?_; (with_reducible refine (vinculumref09_word.calls k2 (a0.extract 0 (t634 : Int).toNat) (wrap64 ((wrap64 (16 + (wrap64 (2 * (wrap64 (Int.tdiv t629 2)))))) + (wrap64 (2 * x6_2)))) t636 _ A19.out).mono ?_); rintro e w' ⟨rfl, ⟨nd, rfl⟩⟩; refine ⟨_, rfl, ?_⟩) | (go_at_call 87; (with_reducible refine (vinculumref09_word.calls k2 (a0.extract 0 (t634 : Int).toNat) (wrap64 ((wrap64 (16 + (wrap64 (6 * (wrap64 (Int.tdiv t629 2)))))) + (wrap64 (2 * x6_2)))) t637 _ A22.out).mono ?_); rintro e w' ⟨rfl, ⟨nd, rfl⟩⟩))
                              go_roundg k2
                              case measure => have := HJ3.out; have := HK2.out; omega
                              case rel => exact ⟨(t635), (wrap64 (x6_2 + 1)), (by first | rfl | (simp; done) | (simp [*]; done)), (by first | rfl | (simp; done) | (simp [*]; done)), H', ⟨by have := HJ3.out; have := HK2.out; omega⟩, ⟨by repeat (first | (with_reducible first | exact HB.out | apply below_alloc | apply pw_below_drewN | apply below_drew1) | exact HB.out)⟩⟩
                      · rw [if_neg c17] at H
                        have c17b0 : decide (x6_2 < (wrap64 (Int.tdiv t629 2))) = false := decide_eq_false c17
                        clear c17
                        by_cases c24 : x5_2 = 65535
                        · rw [if_pos c24] at H
                          have c24b0 : (x5_2 == 65535) = true := beq_iff_eq.mpr c24
                          have c24b1 : (x5_2 != 65535) = false := bne_eq_false_iff_eq.mpr c24
                          clear c24
                          have H' := Aside0.mk H
                          clear H
                          go_wp2
                          go_loopg [9, 10] k2 (fun kq v9 v10 w' => ∃ (x9_3 : List (S42)) (x10_3 : Int), v10 = .int .i64 x10_3 ∧ Aside0 (vinculumref09_Get.l1 kq (a0.extract 0 (t634 : Int).toNat) (wrap64 (Int.tdiv t629 2)) x9_3 x10_3 = some (r1, r2)) ∧ Aside0 (kq ≤ k2) ∧ Aside0 (Kd.R k42 42 w' w.heap.size (fun _ => True) v9 x9_3) ∧ Aside0 (Below w.heap.size w w'))
                          case atStart => exact ⟨(([] : List (S42))), (0), (by first | rfl | (simp; done) | (simp [*]; done)), H', ⟨Nat.le_refl _⟩, ⟨by first | exact Kd.R_nil _ _ _ _ _ | exact Kd.N_nil _ _ _ _ _ | exact Kd.V_nil _ _ _ _ _ | exact Kd.Q_nil _ _ _ _ _ | exact Kd.S_nil _ _ _ _ _⟩, ⟨by repeat (first | (with_reducible first | exact HB.out | apply below_alloc | apply pw_below_drewN | apply below_drew1) | exact HB.out)⟩⟩
                          case round =>
                            clear H'
                            try clear c1
                            try clear c2
                            try clear c2b0
                            try clear c2b1
                            try clear p2
                            try clear c5
                            try clear c6
                            try clear c6b0
                            try clear c6b1
                            try clear p6
                            try clear c8
                            try clear c8b0
                            try clear c8b1
                            try clear c9
                            try clear c11
                            try clear c11b0
                            try clear c13
                            try clear c13b0
                            try clear c15
                            try clear c15b0
                            try clear c15b1
                            try clear c16
                            try clear c16b0
                            try clear c16b1
                            try clear c17
                            try clear c17b0
                            try clear c20
                            try clear c20b0
                            try clear c21
                            try clear c21b0
                            try clear c23
                            try clear c23b0
                            try clear c23b1
                            try clear c24
                            try clear c24b0
                            try clear c24b1
                            try clear p2
                            try clear p6
                            obtain ⟨x9_3, x10_3, rfl, HA, HK3, HO_9, HB⟩ := hrel
                            cases gk with
                            | zero => exact absurd HA.out (by simp [vinculumref09_Get.l1])
                            | succ k3 =>
                              have H := HA.out
                              clear HA
                              simp only [vinculumref09_Get.l1] at H
                              by_cases c25 : x10_3 < (wrap64 (Int.tdiv t629 2))
                              · rw [if_pos c25] at H
                                have c25b0 : decide (x10_3 < (wrap64 (Int.tdiv t629 2))) = true := decide_eq_true c25
                                clear c25
                                replace H := Option.bind_eq_some_iff.mp H
                                obtain ⟨t638, A260, H⟩ := H
                                replace H : ((vinculumref09_word.f k3 (a0.extract 0 (t634 : Int).toNat) (wrap64 ((wrap64 (16 + (wrap64 (2 * (wrap64 (Int.tdiv t629 2)))))) + (wrap64 (2 * x10_3))))).bind fun t639 => ((vinculumref09_word.f k3 (a0.extract 0 (t634 : Int).toNat) (wrap64 ((wrap64 (16 + (wrap64 (4 * (wrap64 (Int.tdiv t629 2)))))) + (wrap64 (2 * x10_3))))).bind fun t640 => ((vinculumref09_word.f k3 (a0.extract 0 (t634 : Int).toNat) (wrap64 ((wrap64 (16 + (wrap64 (6 * (wrap64 (Int.tdiv t629 2)))))) + (wrap64 (2 * x10_3))))).bind fun t641 => (if t641 = 0 then ((vinculumref09_near.f t639 t638 t640).bind fun t642 => (if x9_3.length + t642.length < 4398046511104 then (vinculumref09_Get.l1 k3 (a0.extract 0 (t634 : Int).toNat) (wrap64 (Int.tdiv t629 2)) (x9_3 ++ t642) (wrap64 (x10_3 + 1))) else (none))) else ((vinculumref09_far.f k3 (a0.extract 0 (t634 : Int).toNat) t639 t638 t640 (wrap64 ((wrap64 (16 + (wrap64 (6 * (wrap64 (Int.tdiv t629 2)))))) + (wrap64 (2 * x10_3))))).bind fun bt648 => (if bt648.2 = 0 then (if x9_3.length + bt648.1.length < 4398046511104 then (vinculumref09_Get.l1 k3 (a0.extract 0 (t634 : Int).toNat) (wrap64 (Int.tdiv t629 2)) (x9_3 ++ bt648.1) (wrap64 (x10_3 + 1))) else (none)) else (some (([] : List (S42)), bt648.2)))))))) = some (r1, r2) := H
                                have A26 := Aside0.mk A260
                                clear A260
                                replace H := Option.bind_eq_some_iff.mp H
                                obtain ⟨t639, A270, H⟩ := H
                                replace H : ((vinculumref09_word.f k3 (a0.extract 0 (t634 : Int).toNat) (wrap64 ((wrap64 (16 + (wrap64 (4 * (wrap64 (Int.tdiv t629 2)))))) + (wrap64 (2 * x10_3))))).bind fun t640 => ((vinculumref09_word.f k3 (a0.extract 0 (t634 : Int).toNat) (wrap64 ((wrap64 (16 + (wrap64 (6 * (wrap64 (Int.tdiv t629 2)))))) + (wrap64 (2 * x10_3))))).bind fun t641 => (if t641 = 0 then ((vinculumref09_near.f t639 t638 t640).bind fun t642 => (if x9_3.length + t642.length < 4398046511104 then (vinculumref09_Get.l1 k3 (a0.extract 0 (t634 : Int).toNat) (wrap64 (Int.tdiv t629 2)) (x9_3 ++ t642) (wrap64 (x10_3 + 1))) else (none))) else ((vinculumref09_far.f k3 (a0.extract 0 (t634 : Int).toNat) t639 t638 t640 (wrap64 ((wrap64 (16 + (wrap64 (6 * (wrap64 (Int.tdiv t629 2)))))) + (wrap64 (2 * x10_3))))).bind fun bt648 => (if bt648.2 = 0 then (if x9_3.length + bt648.1.length < 4398046511104 then (vinculumref09_Get.l1 k3 (a0.extract 0 (t634 : Int).toNat) (wrap64 (Int.tdiv t629 2)) (x9_3 ++ bt648.1) (wrap64 (x10_3 + 1))) else (none)) else (some (([] : List (S42)), bt648.2))))))) = some (r1, r2) := H
                                have A27 := Aside0.mk A270
                                clear A270
                                replace H := Option.bind_eq_some_iff.mp H
                                obtain ⟨t640, A280, H⟩ := H
                                replace H : ((vinculumref09_word.f k3 (a0.extract 0 (t634 : Int).toNat) (wrap64 ((wrap64 (16 + (wrap64 (6 * (wrap64 (Int.tdiv t629 2)))))) + (wrap64 (2 * x10_3))))).bind fun t641 => (if t641 = 0 then ((vinculumref09_near.f t639 t638 t640).bind fun t642 => (if x9_3.length + t642.length < 4398046511104 then (vinculumref09_Get.l1 k3 (a0.extract 0 (t634 : Int).toNat) (wrap64 (Int.tdiv t629 2)) (x9_3 ++ t642) (wrap64 (x10_3 + 1))) else (none))) else ((vinculumref09_far.f k3 (a0.extract 0 (t634 : Int).toNat) t639 t638 t640 (wrap64 ((wrap64 (16 + (wrap64 (6 * (wrap64 (Int.tdiv t629 2)))))) + (wrap64 (2 * x10_3))))).bind fun bt648 => (if bt648.2 = 0 then (if x9_3.length + bt648.1.length < 4398046511104 then (vinculumref09_Get.l1 k3 (a0.extract 0 (t634 : Int).toNat) (wrap64 (Int.tdiv t629 2)) (x9_3 ++ bt648.1) (wrap64 (x10_3 + 1))) else (none)) else (some (([] : List (S42)), bt648.2)))))) = some (r1, r2) := H
                                have A28 := Aside0.mk A280
                                clear A280
                                replace H := Option.bind_eq_some_iff.mp H
                                obtain ⟨t641, A290, H⟩ := H
                                replace H : (if t641 = 0 then ((vinculumref09_near.f t639 t638 t640).bind fun t642 => (if x9_3.length + t642.length < 4398046511104 then (vinculumref09_Get.l1 k3 (a0.extract 0 (t634 : Int).toNat) (wrap64 (Int.tdiv t629 2)) (x9_3 ++ t642) (wrap64 (x10_3 + 1))) else (none))) else ((vinculumref09_far.f k3 (a0.extract 0 (t634 : Int).toNat) t639 t638 t640 (wrap64 ((wrap64 (16 + (wrap64 (6 * (wrap64 (Int.tdiv t629 2)))))) + (wrap64 (2 * x10_3))))).bind fun bt648 => (if bt648.2 = 0 then (if x9_3.length + bt648.1.length < 4398046511104 then (vinculumref09_Get.l1 k3 (a0.extract 0 (t634 : Int).toNat) (wrap64 (Int.tdiv t629 2)) (x9_3 ++ bt648.1) (wrap64 (x10_3 + 1))) else (none)) else (some (([] : List (S42)), bt648.2))))) = some (r1, r2) := H
                                have A29 := Aside0.mk A290
                                clear A290
                                by_cases c30 : t641 = 0
                                · rw [if_pos c30] at H
                                  have c30b0 : (t641 == 0) = true := beq_iff_eq.mpr c30
                                  have c30b1 : (t641 != 0) = false := bne_eq_false_iff_eq.mpr c30
                                  clear c30
                                  replace H := Option.bind_eq_some_iff.mp H
                                  obtain ⟨t642, A310, H⟩ := H
                                  replace H : (if x9_3.length + t642.length < 4398046511104 then (vinculumref09_Get.l1 k3 (a0.extract 0 (t634 : Int).toNat) (wrap64 (Int.tdiv t629 2)) (x9_3 ++ t642) (wrap64 (x10_3 + 1))) else (none)) = some (r1, r2) := H
                                  have A31 := Aside0.mk A310
                                  clear A310
                                  by_cases c32 : x9_3.length + t642.length < 4398046511104
                                  · rw [if_pos c32] at H
                                    have LMc32 := Aside0.mk c32
                                    clear c32
                                    obtain ⟨y645, hy645⟩ : ∃ y_ : List (S42), y_ = (x9_3 ++ t642) := ⟨_, rfl⟩
                                    replace H : (vinculumref09_Get.l1 k3 (a0.extract 0 (t634 : Int).toNat) (wrap64 (Int.tdiv t629 2)) y645 (wrap64 (x10_3 + 1))) = some (r1, r2) := by first | (rw [hy645]; with_reducible exact H) | (have H2_ := (Option.bind_some _ _).symm.trans H; rw [hy645]; with_reducible exact H2_) | (have H2_ := (Option.bind_some _ _).symm.trans H; with_reducible exact H2_) | with_reducible exact H | (rw [hy645]; exact H) | exact H
                                    have Ny645 := Aside0.mk hy645
                                    clear hy645
                                    have H' := Aside0.mk H
                                    clear H
                                    go_wp2_with (first | ((with_reducible refine gate_callee (f := 87) rfl ?_); refine goesL_ (some 101) rfl rfl Try.func87 (by kernel_rfl) rfl #[.string (a0.extract 0 (t634 : Int).toNat), .int .i64 (wrap64 (14 + (wrap64 (2 * x10_3))))] rfl (by (try simp only [List.map_toArray, List.map_cons, List.map_nil]); first | done | rfl | (simp only [List.length_drop, List.length_take]; rfl)) ?_; (with_reducible refine (vinculumref09_word.calls k3 (a0.extract 0 (t634 : Int).toNat) (wrap64 (14 + (wrap64 (2 * x10_3)))) t638 _ A26.out).mono ?_); rintro e w' ⟨rfl, ⟨nd, rfl⟩⟩; refine ⟨_, rfl, ?_⟩) | ((with_reducible refine gate_callee (f := 87) rfl ?_); refine goesL_ (some 109) rfl rfl Try.func87 (by kernel_rfl) rfl #[.string (a0.extract 0 (t634 : Int).toNat), .int .i64 (wrap64 ((wrap64 (16 + (wrap64 (2 * (wrap64 (Int.tdiv t629 2)))))) + (wrap64 (2 * x10_3))))] rfl (by (try simp only [List.map_toArray, List.map_cons, List.map_nil]); first | done | rfl | (simp only [List.length_drop, List.length_take]; rfl)) ?_; (with_reducible refine (vinculumref09_word.calls k3 (a0.extract 0 (t634 : Int).toNat) (wrap64 ((wrap64 (16 + (wrap64 (2 * (wrap64 (Int.tdiv t629 2)))))) + (wrap64 (2 * x10_3)))) t639 _ A27.out).mono ?_); rintro e w' ⟨rfl, ⟨nd, rfl⟩⟩; refine ⟨_, rfl, ?_⟩) | ((with_reducible refine gate_callee (f := 87) rfl ?_); refine goesL_ (some 117) rfl rfl Try.func87 (by kernel_rfl) rfl #[.string (a0.extract 0 (t634 : Int).toNat), .int .i64 (wrap64 ((wrap64 (16 + (wrap64 (4 * (wrap64 (Int.tdiv t629 2)))))) + (wrap64 (2 * x10_3))))] rfl (by (try simp only [List.map_toArray, List.map_cons, List.map_nil]); first | done | rfl | (simp only [List.length_drop, List.length_take]; rfl)) ?_; (with_reducible refine (vinculumref09_word.calls k3 (a0.extract 0 (t634 : Int).toNat) (wrap64 ((wrap64 (16 + (wrap64 (4 * (wrap64 (Int.tdiv t629 2)))))) + (wrap64 (2 * x10_3)))) t640 _ A28.out).mono ?_); rintro e w' ⟨rfl, ⟨nd, rfl⟩⟩; refine ⟨_, rfl, ?_⟩) | ((with_reducible refine gate_callee (f := 87) rfl ?_); refine goesL_ (some 126) rfl rfl Try.func87 (by kernel_rfl) rfl #[.string (a0.extract 0 (t634 : Int).toNat), .int .i64 (wrap64 ((wrap64 (16 + (wrap64 (6 * (wrap64 (Int.tdiv t629 2)))))) + (wrap64 (2 * x10_3))))] rfl (by (try simp only [List.map_toArray, List.map_cons, List.map_nil]); first | done | rfl | (simp only [List.length_drop, List.length_take]; rfl)) ?_; (with_reducible refine (vinculumref09_word.calls k3 (a0.extract 0 (t634 : Int).toNat) (wrap64 ((wrap64 (16 + (wrap64 (6 * (wrap64 (Int.tdiv t629 2)))))) + (wrap64 (2 * x10_3)))) t641 _ A29.out).mono ?_); rintro e w' ⟨rfl, ⟨nd, rfl⟩⟩; refine ⟨_, rfl, ?_⟩) | ((with_reducible refine gate_callee (f := 88) rfl ?_); refine goesL_ (some 132) rfl rfl Try.func88 (by kernel_rfl) rfl #[.int .i64 t639, .int .i64 t638, .int .i64 t640] rfl (by (try simp only [List.map_toArray, List.map_cons, List.map_nil]); first | done | rfl | (simp only [List.length_drop, List.length_take]; rfl)) ?_; (with_reducible refine (vinculumref09_near.calls t639 t638 t640 t642 _ A31.out).mono ?_); rintro e w33 ⟨v643, rfl, ho0, hb⟩; refine ⟨_, rfl, ?_⟩; have n0_ := Aside0.mk (Kd.R_elder' (by (with_reducible repeat (first | apply Kd.R_alloc | apply Kd.R_drewN | apply Kd.R_drew)); exact HO_9.out) (Kd.R_base ho0) hb); have n1_ := Aside0.mk (Kd.R_lower (Kd.R_new' ho0 (Kd.R_lt (by (with_reducible repeat (first | apply Kd.R_alloc | apply Kd.R_drewN | apply Kd.R_drew)); exact HO_9.out))) (below_size (by repeat (first | (with_reducible first | exact HB.out | apply below_alloc | apply pw_below_drewN | apply below_drew1) | exact HB.out)))); have n2_ := Aside0.mk (below_step (by repeat (first | (with_reducible first | exact HB.out | apply below_alloc | apply pw_below_drewN | apply below_drew1) | exact HB.out)) hb); clear HO_9; clear HB; have HO_9 := n0_; have HO644 := n1_; have HB := n2_; clear n0_ n1_ n2_; (try clear hb); (try clear hb2); (try clear hk); (try clear hi); (try clear ho0); obtain ⟨Ao35, co35, eo35⟩ := Kd.R_slice HO644.out; subst eo35) | ((with_reducible refine gate_builtin (b := .append) (xs := #[.tmp 128, .tmp 132]) rfl ?_); at_builtin; refine Kd.R_append_rows k42 (w0 := w) w.heap.size rfl (.tmp 128) (.tmp 132) 22 42 (.agg #[(.int .i64 0), (.int .i64 0), (.int .i64 0), (.int .i64 0)]) 32 rfl Try.underlying22 info42 rfl (by decide) (by omega) u9 x9_3 t642 _ _ _ (fun k_ => some k_ ≠ (.slice Ao35 t642.length co35 : Value).ownBlock) (fun _ => False) rfl rfl ?aO ?aR (fun _ _ h => h) (fun _ h => h.elim) ?aF ?aB ?aS ?aL ?_; (case aR => repeat (first | exact (Kd.R_reads' HO644.out).2.2 | (with_reducible refine Kd.C_alloc ?_ _) | (with_reducible refine Kd.C_drewN ?_ _) | (with_reducible refine Kd.C_drew ?_))); (case aB => exact (by repeat (first | (with_reducible first | exact HB.out | apply below_alloc | apply pw_below_drewN | apply below_drew1) | exact HB.out))); (case aF => exact (fun k_ hk => Kd.fresh' (Kd.R_lt (by (with_reducible repeat (first | apply Kd.R_alloc | apply Kd.R_drewN | apply Kd.R_drew)); exact HO644.out)) k_ hk)); (case aO => exact (by (with_reducible repeat (first | apply Kd.R_alloc | apply Kd.R_drewN | apply Kd.R_drew)); exact Kd.R_mono HO_9.out (fun _ hk => hk.2))); (case aS => exact (below_size (by repeat (first | (with_reducible first | exact HB.out | apply below_alloc | apply pw_below_drewN | apply below_drew1) | exact HB.out)))); (case aL => have := LMc32.out; omega); intro v646 w34 ho hb hg hat; rw [← Ny645.out] at ho; have n0_ := Aside0.mk (Kd.R_after (ok := (fun _ => True)) (by (with_reducible repeat (first | apply Kd.R_alloc | apply Kd.R_drewN | apply Kd.R_drew)); exact HO644.out) hg hat); have n1_ := Aside0.mk (hb); have n2_ := Aside0.mk (ho); clear HO644; clear HB; clear HO_9; have HO644 := n0_; have HB := n1_; have HO647 := n2_; clear n0_ n1_ n2_; clear ho hb hg hat))
                                    go_roundg k3
                                    case measure => have := HJ3.out; have := HK2.out; have := HK3.out; omega
                                    case rel => exact ⟨(y645), (wrap64 (x10_3 + 1)), (by first | rfl | (simp; done) | (simp [*]; done)), H', ⟨by have := HJ3.out; have := HK2.out; have := HK3.out; omega⟩, ⟨by (with_reducible repeat (first | apply Kd.R_alloc | apply Kd.R_drewN | apply Kd.R_drew)); exact Kd.R_mono HO647.out (fun _ hk => trivial)⟩, ⟨by repeat (first | (with_reducible first | exact HB.out | apply below_alloc | apply pw_below_drewN | apply below_drew1) | exact HB.out)⟩⟩
                                  · rw [if_neg c32] at H
                                    exact absurd H (by simp)
                                · rw [if_neg c30] at H
                                  have c30b0 : (t641 == 0) = false := beq_eq_false_iff_ne.mpr c30
                                  have c30b1 : (t641 != 0) = true := bne_iff_ne.mpr c30
                                  replace H := Option.bind_eq_some_iff.mp H
                                  obtain ⟨⟨t648, t649⟩, A360, H⟩ := H
                                  replace H : (if t649 = 0 then (if x9_3.length + t648.length < 4398046511104 then (vinculumref09_Get.l1 k3 (a0.extract 0 (t634 : Int).toNat) (wrap64 (Int.tdiv t629 2)) (x9_3 ++ t648) (wrap64 (x10_3 + 1))) else (none)) else (some (([] : List (S42)), t649))) = some (r1, r2) := H
                                  have A36 := Aside0.mk A360
                                  clear A360
                                  by_cases c37 : t649 = 0
                                  · rw [if_pos c37] at H
                                    have c37b0 : (t649 == 0) = true := beq_iff_eq.mpr c37
                                    have c37b1 : (t649 != 0) = false := bne_eq_false_iff_eq.mpr c37
                                    clear c37
                                    by_cases c38 : x9_3.length + t648.length < 4398046511104
                                    · rw [if_pos c38] at H
                                      have LMc38 := Aside0.mk c38
                                      clear c38
                                      obtain ⟨y652, hy652⟩ : ∃ y_ : List (S42), y_ = (x9_3 ++ t648) := ⟨_, rfl⟩
                                      replace H : (vinculumref09_Get.l1 k3 (a0.extract 0 (t634 : Int).toNat) (wrap64 (Int.tdiv t629 2)) y652 (wrap64 (x10_3 + 1))) = some (r1, r2) := by first | (rw [hy652]; with_reducible exact H) | (have H2_ := (Option.bind_some _ _).symm.trans H; rw [hy652]; with_reducible exact H2_) | (have H2_ := (Option.bind_some _ _).symm.trans H; with_reducible exact H2_) | with_reducible exact H | (rw [hy652]; exact H) | exact H
                                      have Ny652 := Aside0.mk hy652
                                      clear hy652
                                      have H' := Aside0.mk H
                                      clear H
                                      go_wp2_with (first | ((with_reducible refine gate_callee (f := 87) rfl ?_); refine goesL_ (some 101) rfl rfl Try.func87 (by kernel_rfl) rfl #[.string (a0.extract 0 (t634 : Int).toNat), .int .i64 (wrap64 (14 + (wrap64 (2 * x10_3))))] rfl (by (try simp only [List.map_toArray, List.map_cons, List.map_nil]); first | done | rfl | (simp only [List.length_drop, List.length_take]; rfl)) ?_; (with_reducible refine (vinculumref09_word.calls k3 (a0.extract 0 (t634 : Int).toNat) (wrap64 (14 + (wrap64 (2 * x10_3)))) t638 _ A26.out).mono ?_); rintro e w' ⟨rfl, ⟨nd, rfl⟩⟩; refine ⟨_, rfl, ?_⟩) | ((with_reducible refine gate_callee (f := 87) rfl ?_); refine goesL_ (some 109) rfl rfl Try.func87 (by kernel_rfl) rfl #[.string (a0.extract 0 (t634 : Int).toNat), .int .i64 (wrap64 ((wrap64 (16 + (wrap64 (2 * (wrap64 (Int.tdiv t629 2)))))) + (wrap64 (2 * x10_3))))] rfl (by (try simp only [List.map_toArray, List.map_cons, List.map_nil]); first | done | rfl | (simp only [List.length_drop, List.length_take]; rfl)) ?_; (with_reducible refine (vinculumref09_word.calls k3 (a0.extract 0 (t634 : Int).toNat) (wrap64 ((wrap64 (16 + (wrap64 (2 * (wrap64 (Int.tdiv t629 2)))))) + (wrap64 (2 * x10_3)))) t639 _ A27.out).mono ?_); rintro e w' ⟨rfl, ⟨nd, rfl⟩⟩; refine ⟨_, rfl, ?_⟩) | ((with_reducible refine gate_callee (f := 87) rfl ?_); refine goesL_ (some 117) rfl rfl Try.func87 (by kernel_rfl) rfl #[.string (a0.extract 0 (t634 : Int).toNat), .int .i64 (wrap64 ((wrap64 (16 + (wrap64 (4 * (wrap64 (Int.tdiv t629 2)))))) + (wrap64 (2 * x10_3))))] rfl (by (try simp only [List.map_toArray, List.map_cons, List.map_nil]); first | done | rfl | (simp only [List.length_drop, List.length_take]; rfl)) ?_; (with_reducible refine (vinculumref09_word.calls k3 (a0.extract 0 (t634 : Int).toNat) (wrap64 ((wrap64 (16 + (wrap64 (4 * (wrap64 (Int.tdiv t629 2)))))) + (wrap64 (2 * x10_3)))) t640 _ A28.out).mono ?_); rintro e w' ⟨rfl, ⟨nd, rfl⟩⟩; refine ⟨_, rfl, ?_⟩) | ((with_reducible refine gate_callee (f := 87) rfl ?_); refine goesL_ (some 126) rfl rfl Try.func87 (by kernel_rfl) rfl #[.string (a0.extract 0 (t634 : Int).toNat), .int .i64 (wrap64 ((wrap64 (16 + (wrap64 (6 * (wrap64 (Int.tdiv t629 2)))))) + (wrap64 (2 * x10_3))))] rfl (by (try simp only [List.map_toArray, List.map_cons, List.map_nil]); first | done | rfl | (simp only [List.length_drop, List.length_take]; rfl)) ?_; (with_reducible refine (vinculumref09_word.calls k3 (a0.extract 0 (t634 : Int).toNat) (wrap64 ((wrap64 (16 + (wrap64 (6 * (wrap64 (Int.tdiv t629 2)))))) + (wrap64 (2 * x10_3)))) t641 _ A29.out).mono ?_); rintro e w' ⟨rfl, ⟨nd, rfl⟩⟩; refine ⟨_, rfl, ?_⟩) | ((with_reducible refine gate_callee (f := 89) rfl ?_); refine goesL_ (some 140) rfl rfl Try.func89 (by kernel_rfl) rfl #[.string (a0.extract 0 (t634 : Int).toNat), .int .i64 t639, .int .i64 t638, .int .i64 t640, .int .i64 (wrap64 ((wrap64 (16 + (wrap64 (6 * (wrap64 (Int.tdiv t629 2)))))) + (wrap64 (2 * x10_3))))] rfl (by (try simp only [List.map_toArray, List.map_cons, List.map_nil]); first | done | rfl | (simp only [List.length_drop, List.length_take]; rfl)) ?_; (with_reducible refine (vinculumref09_far.calls k3 (a0.extract 0 (t634 : Int).toNat) t639 t638 t640 (wrap64 ((wrap64 (16 + (wrap64 (6 * (wrap64 (Int.tdiv t629 2)))))) + (wrap64 (2 * x10_3)))) t648 t649 _ A36.out).mono ?_); rintro e w39 ⟨v650, rfl, ho0, hb⟩; refine ⟨_, rfl, ?_⟩; have n0_ := Aside0.mk (Kd.R_elder' (by (with_reducible repeat (first | apply Kd.R_alloc | apply Kd.R_drewN | apply Kd.R_drew)); exact HO_9.out) (Kd.R_base ho0) hb); have n1_ := Aside0.mk (Kd.R_lower (Kd.R_new' ho0 (Kd.R_lt (by (with_reducible repeat (first | apply Kd.R_alloc | apply Kd.R_drewN | apply Kd.R_drew)); exact HO_9.out))) (below_size (by repeat (first | (with_reducible first | exact HB.out | apply below_alloc | apply pw_below_drewN | apply below_drew1) | exact HB.out)))); have n2_ := Aside0.mk (below_step (by repeat (first | (with_reducible first | exact HB.out | apply below_alloc | apply pw_below_drewN | apply below_drew1) | exact HB.out)) hb); clear HO_9; clear HB; have HO_9 := n0_; have HO651 := n1_; have HB := n2_; clear n0_ n1_ n2_; (try clear hb); (try clear hb2); (try clear hk); (try clear hi); (try clear ho0); obtain ⟨Ao41, co41, eo41⟩ := Kd.R_slice HO651.out; subst eo41) | ((with_reducible refine gate_builtin (b := .append) (xs := #[.tmp 146, .tmp 147]) rfl ?_); at_builtin; refine Kd.R_append_rows k42 (w0 := w) w.heap.size rfl (.tmp 146) (.tmp 147) 22 42 (.agg #[(.int .i64 0), (.int .i64 0), (.int .i64 0), (.int .i64 0)]) 32 rfl Try.underlying22 info42 rfl (by decide) (by omega) u9 x9_3 t648 _ _ _ (fun k_ => some k_ ≠ (.slice Ao41 t648.length co41 : Value).ownBlock) (fun _ => False) rfl rfl ?aO ?aR (fun _ _ h => h) (fun _ h => h.elim) ?aF ?aB ?aS ?aL ?_; (case aR => repeat (first | exact (Kd.R_reads' HO651.out).2.2 | (with_reducible refine Kd.C_alloc ?_ _) | (with_reducible refine Kd.C_drewN ?_ _) | (with_reducible refine Kd.C_drew ?_))); (case aB => exact (by repeat (first | (with_reducible first | exact HB.out | apply below_alloc | apply pw_below_drewN | apply below_drew1) | exact HB.out))); (case aF => exact (fun k_ hk => Kd.fresh' (Kd.R_lt (by (with_reducible repeat (first | apply Kd.R_alloc | apply Kd.R_drewN | apply Kd.R_drew)); exact HO651.out)) k_ hk)); (case aO => exact (by (with_reducible repeat (first | apply Kd.R_alloc | apply Kd.R_drewN | apply Kd.R_drew)); exact Kd.R_mono HO_9.out (fun _ hk => hk.2))); (case aS => exact (below_size (by repeat (first | (with_reducible first | exact HB.out | apply below_alloc | apply pw_below_drewN | apply below_drew1) | exact HB.out)))); (case aL => have := LMc38.out; omega); intro v653 w40 ho hb hg hat; rw [← Ny652.out] at ho; have n0_ := Aside0.mk (Kd.R_after (ok := (fun _ => True)) (by (with_reducible repeat (first | apply Kd.R_alloc | apply Kd.R_drewN | apply Kd.R_drew)); exact HO651.out) hg hat); have n1_ := Aside0.mk (hb); have n2_ := Aside0.mk (ho); clear HO651; clear HB; clear HO_9; have HO651 := n0_; have HB := n1_; have HO654 := n2_; clear n0_ n1_ n2_; clear ho hb hg hat))
                                      go_roundg k3
                                      case measure => have := HJ3.out; have := HK2.out; have := HK3.out; omega
                                      case rel => exact ⟨(y652), (wrap64 (x10_3 + 1)), (by first | rfl | (simp; done) | (simp [*]; done)), H', ⟨by have := HJ3.out; have := HK2.out; have := HK3.out; omega⟩, ⟨by (with_reducible repeat (first | apply Kd.R_alloc | apply Kd.R_drewN | apply Kd.R_drew)); exact Kd.R_mono HO654.out (fun _ hk => trivial)⟩, ⟨by repeat (first | (with_reducible first | exact HB.out | apply below_alloc | apply pw_below_drewN | apply below_drew1) | exact HB.out)⟩⟩
                                    · rw [if_neg c38] at H
                                      exact absurd H (by simp)
                                  · rw [if_neg c37] at H
                                    have c37b0 : (t649 == 0) = false := beq_eq_false_iff_ne.mpr c37
                                    have c37b1 : (t649 != 0) = true := bne_iff_ne.mpr c37
                                    simp only [Option.some.injEq, Prod.mk.injEq] at H
                                    obtain ⟨rfl, rfl⟩ := H
                                    go_wp2_with (first | ((with_reducible refine gate_callee (f := 87) rfl ?_); refine goesL_ (some 101) rfl rfl Try.func87 (by kernel_rfl) rfl #[.string (a0.extract 0 (t634 : Int).toNat), .int .i64 (wrap64 (14 + (wrap64 (2 * x10_3))))] rfl (by (try simp only [List.map_toArray, List.map_cons, List.map_nil]); first | done | rfl | (simp only [List.length_drop, List.length_take]; rfl)) ?_; (with_reducible refine (vinculumref09_word.calls k3 (a0.extract 0 (t634 : Int).toNat) (wrap64 (14 + (wrap64 (2 * x10_3)))) t638 _ A26.out).mono ?_); rintro e w' ⟨rfl, ⟨nd, rfl⟩⟩; refine ⟨_, rfl, ?_⟩) | ((with_reducible refine gate_callee (f := 87) rfl ?_); refine goesL_ (some 109) rfl rfl Try.func87 (by kernel_rfl) rfl #[.string (a0.extract 0 (t634 : Int).toNat), .int .i64 (wrap64 ((wrap64 (16 + (wrap64 (2 * (wrap64 (Int.tdiv t629 2)))))) + (wrap64 (2 * x10_3))))] rfl (by (try simp only [List.map_toArray, List.map_cons, List.map_nil]); first | done | rfl | (simp only [List.length_drop, List.length_take]; rfl)) ?_; (with_reducible refine (vinculumref09_word.calls k3 (a0.extract 0 (t634 : Int).toNat) (wrap64 ((wrap64 (16 + (wrap64 (2 * (wrap64 (Int.tdiv t629 2)))))) + (wrap64 (2 * x10_3)))) t639 _ A27.out).mono ?_); rintro e w' ⟨rfl, ⟨nd, rfl⟩⟩; refine ⟨_, rfl, ?_⟩) | ((with_reducible refine gate_callee (f := 87) rfl ?_); refine goesL_ (some 117) rfl rfl Try.func87 (by kernel_rfl) rfl #[.string (a0.extract 0 (t634 : Int).toNat), .int .i64 (wrap64 ((wrap64 (16 + (wrap64 (4 * (wrap64 (Int.tdiv t629 2)))))) + (wrap64 (2 * x10_3))))] rfl (by (try simp only [List.map_toArray, List.map_cons, List.map_nil]); first | done | rfl | (simp only [List.length_drop, List.length_take]; rfl)) ?_; (with_reducible refine (vinculumref09_word.calls k3 (a0.extract 0 (t634 : Int).toNat) (wrap64 ((wrap64 (16 + (wrap64 (4 * (wrap64 (Int.tdiv t629 2)))))) + (wrap64 (2 * x10_3)))) t640 _ A28.out).mono ?_); rintro e w' ⟨rfl, ⟨nd, rfl⟩⟩; refine ⟨_, rfl, ?_⟩) | ((with_reducible refine gate_callee (f := 87) rfl ?_); refine goesL_ (some 126) rfl rfl Try.func87 (by kernel_rfl) rfl #[.string (a0.extract 0 (t634 : Int).toNat), .int .i64 (wrap64 ((wrap64 (16 + (wrap64 (6 * (wrap64 (Int.tdiv t629 2)))))) + (wrap64 (2 * x10_3))))] rfl (by (try simp only [List.map_toArray, List.map_cons, List.map_nil]); first | done | rfl | (simp only [List.length_drop, List.length_take]; rfl)) ?_; (with_reducible refine (vinculumref09_word.calls k3 (a0.extract 0 (t634 : Int).toNat) (wrap64 ((wrap64 (16 + (wrap64 (6 * (wrap64 (Int.tdiv t629 2)))))) + (wrap64 (2 * x10_3)))) t641 _ A29.out).mono ?_); rintro e w' ⟨rfl, ⟨nd, rfl⟩⟩; refine ⟨_, rfl, ?_⟩) | ((with_reducible refine gate_callee (f := 89) rfl ?_); refine goesL_ (some 140) rfl rfl Try.func89 (by kernel_rfl) rfl #[.string (a0.extract 0 (t634 : Int).toNat), .int .i64 t639, .int .i64 t638, .int .i64 t640, .int .i64 (wrap64 ((wrap64 (16 + (wrap64 (6 * (wrap64 (Int.tdiv t629 2)))))) + (wrap64 (2 * x10_3))))] rfl (by (try simp only [List.map_toArray, List.map_cons, List.map_nil]); first | done | rfl | (simp only [List.length_drop, List.length_take]; rfl)) ?_; (with_reducible refine (vinculumref09_far.calls k3 (a0.extract 0 (t634 : Int).toNat) t639 t638 t640 (wrap64 ((wrap64 (16 + (wrap64 (6 * (wrap64 (Int.tdiv t629 2)))))) + (wrap64 (2 * x10_3)))) t648 t649 _ A36.out).mono ?_); rintro e w42 ⟨v650, rfl, ho0, hb⟩; refine ⟨_, rfl, ?_⟩; have n0_ := Aside0.mk (Kd.R_elder' (by (with_reducible repeat (first | apply Kd.R_alloc | apply Kd.R_drewN | apply Kd.R_drew)); exact HO_9.out) (Kd.R_base ho0) hb); have n1_ := Aside0.mk (Kd.R_lower (Kd.R_new' ho0 (Kd.R_lt (by (with_reducible repeat (first | apply Kd.R_alloc | apply Kd.R_drewN | apply Kd.R_drew)); exact HO_9.out))) (below_size (by repeat (first | (with_reducible first | exact HB.out | apply below_alloc | apply pw_below_drewN | apply below_drew1) | exact HB.out)))); have n2_ := Aside0.mk (below_step (by repeat (first | (with_reducible first | exact HB.out | apply below_alloc | apply pw_below_drewN | apply below_drew1) | exact HB.out)) hb); clear HO_9; clear HB; have HO_9 := n0_; have HO651 := n1_; have HB := n2_; clear n0_ n1_ n2_; (try clear hb); (try clear hb2); (try clear hk); (try clear hi); (try clear ho0)))
                                    go_ret2
                                    exact ⟨_, by first | rfl | (simp [errW_none, errW_some] <;> rfl) | (simp [*, errW_none, errW_some] <;> rfl), by first | exact Kd.R_nil _ _ _ _ _ | exact Kd.N_nil _ _ _ _ _ | exact Kd.V_nil _ _ _ _ _ | exact Kd.Q_nil _ _ _ _ _ | exact Kd.S_nil _ _ _ _ _, by repeat (first | (with_reducible first | exact HB.out | apply below_alloc | apply pw_below_drewN | apply below_drew1) | exact HB.out)⟩
                              · rw [if_neg c25] at H
                                have c25b0 : decide (x10_3 < (wrap64 (Int.tdiv t629 2))) = false := decide_eq_false c25
                                clear c25
                                simp only [Option.some.injEq, Prod.mk.injEq] at H
                                obtain ⟨rfl, rfl⟩ := H
                                go_wp2
                                go_ret2
                                exact ⟨_, by first | rfl | (simp [errW_none, errW_some] <;> rfl) | (simp [*, errW_none, errW_some] <;> rfl), by (with_reducible repeat (first | apply Kd.R_alloc | apply Kd.R_drewN | apply Kd.R_drew)); exact HO_9.out, by repeat (first | (with_reducible first | exact HB.out | apply below_alloc | apply pw_below_drewN | apply below_drew1) | exact HB.out)⟩
                        · rw [if_neg c24] at H
                          have c24b0 : (x5_2 == 65535) = false := beq_eq_false_iff_ne.mpr c24
                          have c24b1 : (x5_2 != 65535) = true := bne_iff_ne.mpr c24
                          simp only [Option.some.injEq, Prod.mk.injEq] at H
                          obtain ⟨rfl, rfl⟩ := H
                          go_wp2
                          go_ret2
                          exact ⟨_, by first | rfl | (simp [errW_none, errW_some] <;> rfl) | (simp [*, errW_none, errW_some] <;> rfl), by first | exact Kd.R_nil _ _ _ _ _ | exact Kd.N_nil _ _ _ _ _ | exact Kd.V_nil _ _ _ _ _ | exact Kd.Q_nil _ _ _ _ _ | exact Kd.S_nil _ _ _ _ _, by repeat (first | (with_reducible first | exact HB.out | apply below_alloc | apply pw_below_drewN | apply below_drew1) | exact HB.out)⟩
                · rw [if_neg c16] at H
                  exact absurd H (by simp)
              · rw [if_neg c15] at H
                exact absurd H (by simp)
def vinculumref09_glyph.f (a0_0 : Int) (a0_1 : Int) (a0_2 : Int) (a0_3 : Int) : Option (Bool) := if a0_2 > 0 then (some true) else (if a0_3 = 1 then (some (decide (a0_1 > a0_0))) else (some false))
set_option maxHeartbeats 8000000 in
set_option maxRecDepth 100000 in
theorem vinculumref09_glyph.calls (a0_0 : Int) (a0_1 : Int) (a0_2 : Int) (a0_3 : Int) (r : Bool) (w : World) (h : vinculumref09_glyph.f a0_0 a0_1 a0_2 a0_3 = some r) :
    Calls Try.prog 128 #[.agg #[.int .i64 a0_0, .int .i64 a0_1, .int .i64 a0_2, .int .i64 a0_3]] w fun e w' => e = .returned (.bool r) ∧ Below w.heap.size w w' := by
  have hu42 := Try.underlying42
  have HB := Aside0.mk (Below.refl w.heap.size w)
  have H : (if a0_2 > 0 then (some true) else (if a0_3 = 1 then (some (decide (a0_1 > a0_0))) else (some false))) = some r := h
  clear h
  by_cases c2 : a0_2 > 0
  · rw [if_pos c2] at H
    have c2b0 : decide (0 < a0_2) = true := decide_eq_true c2
    clear c2
    obtain rfl := Option.some.inj H
    go_enter Try.func128, Try.ntmps128
    go_wp2_with (first | ((with_reducible refine gate_dst (N := 1) rfl ?_); refine box_event ?hg (N := 1) ?hd (cs := #[.int .i64 a0_0, .int .i64 a0_1, .int .i64 a0_2, .int .i64 a0_3]) (t := 42) ?hr ?_; (case hd => rfl); (case hg => rfl); (case hr => first | (go_simp; done) | (go_simp; rfl)); intro gb655 hg w3 hbox hb; have n0_ := Aside0.mk (below_step (by repeat (first | (with_reducible first | exact HB.out | apply below_alloc | apply pw_below_drewN | apply below_drew1) | exact HB.out)) hb); have n1_ := Aside0.mk (hbox); have n2_ := Aside0.mk ((by rw [hg]; exact (below_size (by repeat (first | (with_reducible first | exact HB.out | apply below_alloc | apply pw_below_drewN | apply below_drew1) | exact HB.out))) : w.heap.size ≤ gb655)); have n3_ := Aside0.mk ((by rw [hg]; exact (below_size (by repeat (first | (with_reducible first | exact HB.out | apply below_alloc | apply pw_below_drewN | apply below_drew1) | exact HB.out))) : w.heap.size ≤ gb655)); clear HB; have HB := n0_; have BK655 := n1_; have GW655 := n2_; have GE655 := n3_; clear n0_ n1_ n2_ n3_; clear hb hbox hg; have hcz4_0 : w3.cell? ⟨gb655, 0, none⟩ = some (.int .i64 a0_0) := (blk_cell BK655.out 0).trans rfl; have hcz4_1 : w3.cell? ⟨gb655, 1, none⟩ = some (.int .i64 a0_1) := (blk_cell BK655.out 1).trans rfl; have hcz4_2 : w3.cell? ⟨gb655, 2, none⟩ = some (.int .i64 a0_2) := (blk_cell BK655.out 2).trans rfl; have hcz4_3 : w3.cell? ⟨gb655, 3, none⟩ = some (.int .i64 a0_3) := (blk_cell BK655.out 3).trans rfl; have hfz4_0 := blk_frozen BK655.out 0; have hfz4_1 := blk_frozen BK655.out 1; have hfz4_2 := blk_frozen BK655.out 2; have hfz4_3 := blk_frozen BK655.out 3))
    go_ret
    exact ⟨by first | rfl | (simp [errW_none, errW_some] <;> rfl) | (simp [*, errW_none, errW_some] <;> rfl), by repeat (first | (with_reducible first | exact HB.out | apply below_alloc | apply pw_below_drewN | apply below_drew1 | refine below_set ?_ GE655.out) | exact HB.out)⟩
  · rw [if_neg c2] at H
    have c2b0 : decide (0 < a0_2) = false := decide_eq_false c2
    clear c2
    by_cases c5 : a0_3 = 1
    · rw [if_pos c5] at H
      have c5b0 : (a0_3 == 1) = true := beq_iff_eq.mpr c5
      have c5b1 : (a0_3 != 1) = false := bne_eq_false_iff_eq.mpr c5
      clear c5
      obtain rfl := Option.some.inj H
      go_enter Try.func128, Try.ntmps128
      go_wp2_with (first | ((with_reducible refine gate_dst (N := 1) rfl ?_); refine box_event ?hg (N := 1) ?hd (cs := #[.int .i64 a0_0, .int .i64 a0_1, .int .i64 a0_2, .int .i64 a0_3]) (t := 42) ?hr ?_; (case hd => rfl); (case hg => rfl); (case hr => first | (go_simp; done) | (go_simp; rfl)); intro gb655 hg w6 hbox hb; have n0_ := Aside0.mk (below_step (by repeat (first | (with_reducible first | exact HB.out | apply below_alloc | apply pw_below_drewN | apply below_drew1) | exact HB.out)) hb); have n1_ := Aside0.mk (hbox); have n2_ := Aside0.mk ((by rw [hg]; exact (below_size (by repeat (first | (with_reducible first | exact HB.out | apply below_alloc | apply pw_below_drewN | apply below_drew1) | exact HB.out))) : w.heap.size ≤ gb655)); have n3_ := Aside0.mk ((by rw [hg]; exact (below_size (by repeat (first | (with_reducible first | exact HB.out | apply below_alloc | apply pw_below_drewN | apply below_drew1) | exact HB.out))) : w.heap.size ≤ gb655)); clear HB; have HB := n0_; have BK655 := n1_; have GW655 := n2_; have GE655 := n3_; clear n0_ n1_ n2_ n3_; clear hb hbox hg; have hcz7_0 : w6.cell? ⟨gb655, 0, none⟩ = some (.int .i64 a0_0) := (blk_cell BK655.out 0).trans rfl; have hcz7_1 : w6.cell? ⟨gb655, 1, none⟩ = some (.int .i64 a0_1) := (blk_cell BK655.out 1).trans rfl; have hcz7_2 : w6.cell? ⟨gb655, 2, none⟩ = some (.int .i64 a0_2) := (blk_cell BK655.out 2).trans rfl; have hcz7_3 : w6.cell? ⟨gb655, 3, none⟩ = some (.int .i64 a0_3) := (blk_cell BK655.out 3).trans rfl; have hfz7_0 := blk_frozen BK655.out 0; have hfz7_1 := blk_frozen BK655.out 1; have hfz7_2 := blk_frozen BK655.out 2; have hfz7_3 := blk_frozen BK655.out 3))
      go_ret
      exact ⟨by first | rfl | (simp [errW_none, errW_some] <;> rfl) | (simp [*, errW_none, errW_some] <;> rfl), by repeat (first | (with_reducible first | exact HB.out | apply below_alloc | apply pw_below_drewN | apply below_drew1 | refine below_set ?_ GE655.out) | exact HB.out)⟩
    · rw [if_neg c5] at H
      have c5b0 : (a0_3 == 1) = false := beq_eq_false_iff_ne.mpr c5
      have c5b1 : (a0_3 != 1) = true := bne_iff_ne.mpr c5
      obtain rfl := Option.some.inj H
      go_enter Try.func128, Try.ntmps128
      go_wp2_with (first | ((with_reducible refine gate_dst (N := 1) rfl ?_); refine box_event ?hg (N := 1) ?hd (cs := #[.int .i64 a0_0, .int .i64 a0_1, .int .i64 a0_2, .int .i64 a0_3]) (t := 42) ?hr ?_; (case hd => rfl); (case hg => rfl); (case hr => first | (go_simp; done) | (go_simp; rfl)); intro gb655 hg w8 hbox hb; have n0_ := Aside0.mk (below_step (by repeat (first | (with_reducible first | exact HB.out | apply below_alloc | apply pw_below_drewN | apply below_drew1) | exact HB.out)) hb); have n1_ := Aside0.mk (hbox); have n2_ := Aside0.mk ((by rw [hg]; exact (below_size (by repeat (first | (with_reducible first | exact HB.out | apply below_alloc | apply pw_below_drewN | apply below_drew1) | exact HB.out))) : w.heap.size ≤ gb655)); have n3_ := Aside0.mk ((by rw [hg]; exact (below_size (by repeat (first | (with_reducible first | exact HB.out | apply below_alloc | apply pw_below_drewN | apply below_drew1) | exact HB.out))) : w.heap.size ≤ gb655)); clear HB; have HB := n0_; have BK655 := n1_; have GW655 := n2_; have GE655 := n3_; clear n0_ n1_ n2_ n3_; clear hb hbox hg; have hcz9_0 : w8.cell? ⟨gb655, 0, none⟩ = some (.int .i64 a0_0) := (blk_cell BK655.out 0).trans rfl; have hcz9_1 : w8.cell? ⟨gb655, 1, none⟩ = some (.int .i64 a0_1) := (blk_cell BK655.out 1).trans rfl; have hcz9_2 : w8.cell? ⟨gb655, 2, none⟩ = some (.int .i64 a0_2) := (blk_cell BK655.out 2).trans rfl; have hcz9_3 : w8.cell? ⟨gb655, 3, none⟩ = some (.int .i64 a0_3) := (blk_cell BK655.out 3).trans rfl; have hfz9_0 := blk_frozen BK655.out 0; have hfz9_1 := blk_frozen BK655.out 1; have hfz9_2 := blk_frozen BK655.out 2; have hfz9_3 := blk_frozen BK655.out 3))
      go_ret
      exact ⟨by first | rfl | (simp [errW_none, errW_some] <;> rfl) | (simp [*, errW_none, errW_some] <;> rfl), by repeat (first | (with_reducible first | exact HB.out | apply below_alloc | apply pw_below_drewN | apply below_drew1 | refine below_set ?_ GE655.out) | exact HB.out)⟩
def vinculumref09_kept.l0 : Nat → List (S42) → List (S42) → Int → Option ((List (S42)))
  | 0, _, _, _ => none
  | k + 1, x0, x3, x4 => if x4 < (x0.length : Int) then (if 0 ≤ x4 then ((vinculumref09_glyph.f ((rd_T42 x0 x4).f0) ((rd_T42 x0 x4).f1) ((rd_T42 x0 x4).f2) ((rd_T42 x0 x4).f3)).bind fun t657 => (if t657 = true then (if x3.length < 4398046511104 then (vinculumref09_kept.l0 k x0 (x3 ++ [(⟨(rd_T42 x0 x4).f0, (rd_T42 x0 x4).f1, (rd_T42 x0 x4).f2, (rd_T42 x0 x4).f3⟩ : S42)]) (wrap64 (x4 + 1))) else (none)) else (vinculumref09_kept.l0 k x0 x3 (wrap64 (x4 + 1))))) else (none)) else (some x3)
def vinculumref09_kept.f (k : Nat) (l0 : List (S42)) : Option ((List (S42))) := vinculumref09_kept.l0 k l0 ([] : List (S42)) 0
set_option maxHeartbeats 8000000 in
set_option maxRecDepth 100000 in
theorem vinculumref09_kept.calls (k : Nat) (A0 : Option Addr) (c0 : Nat) (l0 : List (S42)) (r : List (S42)) (w : World) (hr0 : Kd.C k42 w A0 l0.length l0) (hc0 : l0.length ≤ c0) (h : vinculumref09_kept.f k l0 = some r) :
    Calls Try.prog 99 #[.slice A0 l0.length c0] w fun e w' => ∃ v0_ : Value, e = .returned (v0_) ∧ Kd.R k42 42 w' w.heap.size (fun _ => True) v0_ r ∧ Below w.heap.size w w' := by
  have hu42 := Try.underlying42
  have HR0 := Aside0.mk hr0
  have HC0 := Aside0.mk hc0
  clear hr0 hc0
  have HB := Aside0.mk (Below.refl w.heap.size w)
  have H : (vinculumref09_kept.l0 k l0 ([] : List (S42)) 0) = some r := h
  clear h
  have H' := Aside0.mk H
  clear H
  go_enter Try.func99, Try.ntmps99
  go_wp2
  go_loopg [3, 4] k (fun kq v3 v4 w' => ∃ (x3_1 : List (S42)) (x4_1 : Int), v4 = .int .i64 x4_1 ∧ Aside0 (vinculumref09_kept.l0 kq l0 x3_1 x4_1 = some r) ∧ Aside0 (kq ≤ k) ∧ Aside0 (Kd.R k42 42 w' w.heap.size (fun _ => True) v3 x3_1) ∧ Aside0 (Below w.heap.size w w'))
  case atStart => exact ⟨(([] : List (S42))), (0), (by first | rfl | (simp; done) | (simp [*]; done)), H', ⟨Nat.le_refl _⟩, ⟨by first | exact Kd.R_nil _ _ _ _ _ | exact Kd.N_nil _ _ _ _ _ | exact Kd.V_nil _ _ _ _ _ | exact Kd.Q_nil _ _ _ _ _ | exact Kd.S_nil _ _ _ _ _⟩, ⟨by repeat (first | (with_reducible first | exact HB.out | apply below_alloc | apply pw_below_drewN | apply below_drew1) | exact HB.out)⟩⟩
  case round =>
    clear H'
    obtain ⟨x3_1, x4_1, rfl, HA, HK1, HO_3, HB⟩ := hrel
    cases gk with
    | zero => exact absurd HA.out (by simp [vinculumref09_kept.l0])
    | succ k1 =>
      have H := HA.out
      clear HA
      simp only [vinculumref09_kept.l0] at H
      by_cases c2 : x4_1 < (l0.length : Int)
      · rw [if_pos c2] at H
        have c2b0 : decide (x4_1 < (l0.length : Int)) = true := decide_eq_true c2
        clear c2
        by_cases c3 : 0 ≤ x4_1
        · rw [if_pos c3] at H
          have c3b0 : decide (0 ≤ x4_1) = true := decide_eq_true c3
          clear c3
          replace H := Option.bind_eq_some_iff.mp H
          obtain ⟨t657, A40, H⟩ := H
          replace H : (if t657 = true then (if x3_1.length < 4398046511104 then (vinculumref09_kept.l0 k1 l0 (x3_1 ++ [(⟨(rd_T42 l0 x4_1).f0, (rd_T42 l0 x4_1).f1, (rd_T42 l0 x4_1).f2, (rd_T42 l0 x4_1).f3⟩ : S42)]) (wrap64 (x4_1 + 1))) else (none)) else (vinculumref09_kept.l0 k1 l0 x3_1 (wrap64 (x4_1 + 1)))) = some r := H
          have A4 := Aside0.mk A40
          clear A40
          by_cases c5 : t657 = true
          · subst c5
            have H1 : (if x3_1.length < 4398046511104 then (vinculumref09_kept.l0 k1 l0 (x3_1 ++ [(⟨(rd_T42 l0 x4_1).f0, (rd_T42 l0 x4_1).f1, (rd_T42 l0 x4_1).f2, (rd_T42 l0 x4_1).f3⟩ : S42)]) (wrap64 (x4_1 + 1))) else (none)) = some r := by rw [if_pos rfl] at H; exact H
            clear H
            have H := H1
            clear H1
            by_cases c6 : x3_1.length < 4398046511104
            · rw [if_pos c6] at H
              have LMc6 := Aside0.mk c6
              clear c6
              obtain ⟨y659, hy659⟩ : ∃ y_ : List (S42), y_ = (x3_1 ++ [(⟨(rd_T42 l0 x4_1).f0, (rd_T42 l0 x4_1).f1, (rd_T42 l0 x4_1).f2, (rd_T42 l0 x4_1).f3⟩ : S42)]) := ⟨_, rfl⟩
              replace H : (vinculumref09_kept.l0 k1 l0 y659 (wrap64 (x4_1 + 1))) = some r := by first | (rw [hy659]; with_reducible exact H) | (have H2_ := (Option.bind_some _ _).symm.trans H; rw [hy659]; with_reducible exact H2_) | (have H2_ := (Option.bind_some _ _).symm.trans H; with_reducible exact H2_) | with_reducible exact H | (rw [hy659]; exact H) | exact H
              have Ny659 := Aside0.mk hy659
              clear hy659
              have H' := Aside0.mk H
              clear H
              have p656 : 0 ≤ (x4_1 : Int) := of_decide_eq_true (by first | (with_reducible assumption) | assumption)
              have q656 : x4_1 < (l0.length : Int) := of_decide_eq_true (by first | (with_reducible assumption) | assumption)
              obtain ⟨ad656, e656, hx656_0, hx656_1, hx656_2, hx656_3⟩ := at_T42 HR0.out x4_1 p656 q656
              cases e656
              replace hx656_0 := (HB.out.cell (World.block_lt_of_cell? w _ hx656_0)).trans hx656_0
              replace hx656_1 := (HB.out.cell (World.block_lt_of_cell? w _ hx656_1)).trans hx656_1
              replace hx656_2 := (HB.out.cell (World.block_lt_of_cell? w _ hx656_2)).trans hx656_2
              replace hx656_3 := (HB.out.cell (World.block_lt_of_cell? w _ hx656_3)).trans hx656_3
              replace p656 := eq_true p656
              replace q656 := eq_true q656
              go_wp2_with (first | ((with_reducible refine gate_callee (f := 128) rfl ?_); refine goesL_ (some 15) rfl rfl Try.func128 (by kernel_rfl) rfl #[.agg #[.int .i64 ((rd_T42 l0 x4_1).f0), .int .i64 ((rd_T42 l0 x4_1).f1), .int .i64 ((rd_T42 l0 x4_1).f2), .int .i64 ((rd_T42 l0 x4_1).f3)]] rfl (by (try simp only [List.map_toArray, List.map_cons, List.map_nil]); first | done | rfl | (simp only [List.length_drop, List.length_take]; rfl)) ?_; (with_reducible refine (vinculumref09_glyph.calls ((rd_T42 l0 x4_1).f0) ((rd_T42 l0 x4_1).f1) ((rd_T42 l0 x4_1).f2) ((rd_T42 l0 x4_1).f3) true _ A4.out).mono ?_); rintro e w7 ⟨rfl, hb⟩; refine ⟨_, rfl, ?_⟩; have n0_ := Aside0.mk (Kd.R_below (by (with_reducible repeat (first | apply Kd.R_alloc | apply Kd.R_drewN | apply Kd.R_drew)); exact HO_3.out) hb); have n1_ := Aside0.mk (below_step (by repeat (first | (with_reducible first | exact HB.out | apply below_alloc | apply pw_below_drewN | apply below_drew1) | exact HB.out)) hb); clear HO_3; clear HB; have HO_3 := n0_; have HB := n1_; clear n0_ n1_; (try clear hb); (try clear hb2); (try clear hk); (try clear hi); have p658 : 0 ≤ (x4_1 : Int) := of_decide_eq_true (by first | (with_reducible assumption) | assumption); have q658 : x4_1 < (l0.length : Int) := of_decide_eq_true (by first | (with_reducible assumption) | assumption); obtain ⟨ad658, e658, hx658_0, hx658_1, hx658_2, hx658_3⟩ := at_T42 HR0.out x4_1 p658 q658; obtain rfl : ad656 = ad658 := (by injection e658); replace hx658_0 := (HB.out.cell (World.block_lt_of_cell? w _ hx658_0)).trans hx658_0; replace hx658_1 := (HB.out.cell (World.block_lt_of_cell? w _ hx658_1)).trans hx658_1; replace hx658_2 := (HB.out.cell (World.block_lt_of_cell? w _ hx658_2)).trans hx658_2; replace hx658_3 := (HB.out.cell (World.block_lt_of_cell? w _ hx658_3)).trans hx658_3; replace p658 := eq_true p658; replace q658 := eq_true q658) | ((with_reducible refine gate_builtin (b := .append) (xs := #[.tmp 16, .tmp 21]) rfl ?_); at_builtin; refine Kd.R_append k42 (w0 := w) w.heap.size rfl (.tmp 16) (.tmp 21) 22 42 (.agg #[(.int .i64 0), (.int .i64 0), (.int .i64 0), (.int .i64 0)]) 32 rfl Try.underlying22 info42 rfl (by decide) (by omega) u3 x3_1 (⟨(rd_T42 l0 x4_1).f0, (rd_T42 l0 x4_1).f1, (rd_T42 l0 x4_1).f2, (rd_T42 l0 x4_1).f3⟩ : S42) [.int .i64 ((rd_T42 l0 x4_1).f0), .int .i64 ((rd_T42 l0 x4_1).f1), .int .i64 ((rd_T42 l0 x4_1).f2), .int .i64 ((rd_T42 l0 x4_1).f3)] (fun _ => True) (fun _ => False) rfl rfl ?aP (fun _ hk => hk.elim) ?aF ?aO ?aB ?aS ?aL ?_; (case aP => exact k42_mkM _ _ _ (⟨(rd_T42 l0 x4_1).f0, (rd_T42 l0 x4_1).f1, (rd_T42 l0 x4_1).f2, (rd_T42 l0 x4_1).f3⟩ : S42)); (case aB => exact (by repeat (first | (with_reducible first | exact HB.out | apply below_alloc | apply pw_below_drewN | apply below_drew1) | exact HB.out))); (case aF => exact (fun _ _ => trivial)); (case aO => exact (by (with_reducible repeat (first | apply Kd.R_alloc | apply Kd.R_drewN | apply Kd.R_drew)); exact HO_3.out)); (case aS => exact (below_size (by repeat (first | (with_reducible first | exact HB.out | apply below_alloc | apply pw_below_drewN | apply below_drew1) | exact HB.out)))); (case aL => have := LMc6.out; omega); intro v660 w8 ho hb hg hat; rw [← Ny659.out] at ho; have n0_ := Aside0.mk (hb); have n1_ := Aside0.mk (ho); clear HB; clear HO_3; have HB := n0_; have HO661 := n1_; clear n0_ n1_; clear ho hb hg hat))
              go_roundg k1
              case measure => have := HK1.out; omega
              case rel => exact ⟨(y659), (wrap64 (x4_1 + 1)), (by first | rfl | (simp; done) | (simp [*]; done)), H', ⟨by have := HK1.out; omega⟩, ⟨by (with_reducible repeat (first | apply Kd.R_alloc | apply Kd.R_drewN | apply Kd.R_drew)); exact HO661.out⟩, ⟨by repeat (first | (with_reducible first | exact HB.out | apply below_alloc | apply pw_below_drewN | apply below_drew1) | exact HB.out)⟩⟩
            · rw [if_neg c6] at H
              exact absurd H (by simp)
          · replace c5 := Bool.eq_false_iff.mpr c5
            subst c5
            have H1 : (vinculumref09_kept.l0 k1 l0 x3_1 (wrap64 (x4_1 + 1))) = some r := by rw [if_neg (show ¬ (false = true) by decide)] at H; exact H
            clear H
            have H := H1
            clear H1
            have H' := Aside0.mk H
            clear H
            have p656 : 0 ≤ (x4_1 : Int) := of_decide_eq_true (by first | (with_reducible assumption) | assumption)
            have q656 : x4_1 < (l0.length : Int) := of_decide_eq_true (by first | (with_reducible assumption) | assumption)
            obtain ⟨ad656, e656, hx656_0, hx656_1, hx656_2, hx656_3⟩ := at_T42 HR0.out x4_1 p656 q656
            cases e656
            replace hx656_0 := (HB.out.cell (World.block_lt_of_cell? w _ hx656_0)).trans hx656_0
            replace hx656_1 := (HB.out.cell (World.block_lt_of_cell? w _ hx656_1)).trans hx656_1
            replace hx656_2 := (HB.out.cell (World.block_lt_of_cell? w _ hx656_2)).trans hx656_2
            replace hx656_3 := (HB.out.cell (World.block_lt_of_cell? w _ hx656_3)).trans hx656_3
            replace p656 := eq_true p656
            replace q656 := eq_true q656
            go_wp2_with (first | ((with_reducible refine gate_callee (f := 128) rfl ?_); refine goesL_ (some 15) rfl rfl Try.func128 (by kernel_rfl) rfl #[.agg #[.int .i64 ((rd_T42 l0 x4_1).f0), .int .i64 ((rd_T42 l0 x4_1).f1), .int .i64 ((rd_T42 l0 x4_1).f2), .int .i64 ((rd_T42 l0 x4_1).f3)]] rfl (by (try simp only [List.map_toArray, List.map_cons, List.map_nil]); first | done | rfl | (simp only [List.length_drop, List.length_take]; rfl)) ?_; (with_reducible refine (vinculumref09_glyph.calls ((rd_T42 l0 x4_1).f0) ((rd_T42 l0 x4_1).f1) ((rd_T42 l0 x4_1).f2) ((rd_T42 l0 x4_1).f3) false _ A4.out).mono ?_); rintro e w9 ⟨rfl, hb⟩; refine ⟨_, rfl, ?_⟩; have n0_ := Aside0.mk (Kd.R_below (by (with_reducible repeat (first | apply Kd.R_alloc | apply Kd.R_drewN | apply Kd.R_drew)); exact HO_3.out) hb); have n1_ := Aside0.mk (below_step (by repeat (first | (with_reducible first | exact HB.out | apply below_alloc | apply pw_below_drewN | apply below_drew1) | exact HB.out)) hb); clear HO_3; clear HB; have HO_3 := n0_; have HB := n1_; clear n0_ n1_; (try clear hb); (try clear hb2); (try clear hk); (try clear hi)))
            go_roundg k1
            case measure => have := HK1.out; omega
            case rel => exact ⟨(x3_1), (wrap64 (x4_1 + 1)), (by first | rfl | (simp; done) | (simp [*]; done)), H', ⟨by have := HK1.out; omega⟩, ⟨by (with_reducible repeat (first | apply Kd.R_alloc | apply Kd.R_drewN | apply Kd.R_drew)); exact HO_3.out⟩, ⟨by repeat (first | (with_reducible first | exact HB.out | apply below_alloc | apply pw_below_drewN | apply below_drew1) | exact HB.out)⟩⟩
        · rw [if_neg c3] at H
          exact absurd H (by simp)
      · rw [if_neg c2] at H
        have c2b0 : decide (x4_1 < (l0.length : Int)) = false := decide_eq_false c2
        clear c2
        obtain rfl := Option.some.inj H
        go_wp2
        go_ret
        exact ⟨_, by first | rfl | (simp [errW_none, errW_some] <;> rfl) | (simp [*, errW_none, errW_some] <;> rfl), by (with_reducible repeat (first | apply Kd.R_alloc | apply Kd.R_drewN | apply Kd.R_drew)); exact HO_3.out, by repeat (first | (with_reducible first | exact HB.out | apply below_alloc | apply pw_below_drewN | apply below_drew1) | exact HB.out)⟩
def vinculumref09_row.f (a0_0 : Int) (a0_1 : Int) (a0_2 : Int) (a0_3 : Int) : Option (Bool) := if a0_3 = 0 then (some (decide (a0_1 > a0_0))) else (some false)
set_option maxHeartbeats 8000000 in
set_option maxRecDepth 100000 in
theorem vinculumref09_row.calls (a0_0 : Int) (a0_1 : Int) (a0_2 : Int) (a0_3 : Int) (r : Bool) (w : World) (h : vinculumref09_row.f a0_0 a0_1 a0_2 a0_3 = some r) :
    Calls Try.prog 100 #[.agg #[.int .i64 a0_0, .int .i64 a0_1, .int .i64 a0_2, .int .i64 a0_3]] w fun e w' => e = .returned (.bool r) ∧ Below w.heap.size w w' := by
  have hu42 := Try.underlying42
  have HB := Aside0.mk (Below.refl w.heap.size w)
  have H : (if a0_3 = 0 then (some (decide (a0_1 > a0_0))) else (some false)) = some r := h
  clear h
  by_cases c2 : a0_3 = 0
  · rw [if_pos c2] at H
    have c2b0 : (a0_3 == 0) = true := beq_iff_eq.mpr c2
    have c2b1 : (a0_3 != 0) = false := bne_eq_false_iff_eq.mpr c2
    clear c2
    obtain rfl := Option.some.inj H
    go_enter Try.func100, Try.ntmps100
    go_wp2_with (first | ((with_reducible refine gate_dst (N := 1) rfl ?_); refine box_event ?hg (N := 1) ?hd (cs := #[.int .i64 a0_0, .int .i64 a0_1, .int .i64 a0_2, .int .i64 a0_3]) (t := 42) ?hr ?_; (case hd => rfl); (case hg => rfl); (case hr => first | (go_simp; done) | (go_simp; rfl)); intro gb662 hg w3 hbox hb; have n0_ := Aside0.mk (below_step (by repeat (first | (with_reducible first | exact HB.out | apply below_alloc | apply pw_below_drewN | apply below_drew1) | exact HB.out)) hb); have n1_ := Aside0.mk (hbox); have n2_ := Aside0.mk ((by rw [hg]; exact (below_size (by repeat (first | (with_reducible first | exact HB.out | apply below_alloc | apply pw_below_drewN | apply below_drew1) | exact HB.out))) : w.heap.size ≤ gb662)); have n3_ := Aside0.mk ((by rw [hg]; exact (below_size (by repeat (first | (with_reducible first | exact HB.out | apply below_alloc | apply pw_below_drewN | apply below_drew1) | exact HB.out))) : w.heap.size ≤ gb662)); clear HB; have HB := n0_; have BK662 := n1_; have GW662 := n2_; have GE662 := n3_; clear n0_ n1_ n2_ n3_; clear hb hbox hg; have hcz4_0 : w3.cell? ⟨gb662, 0, none⟩ = some (.int .i64 a0_0) := (blk_cell BK662.out 0).trans rfl; have hcz4_1 : w3.cell? ⟨gb662, 1, none⟩ = some (.int .i64 a0_1) := (blk_cell BK662.out 1).trans rfl; have hcz4_2 : w3.cell? ⟨gb662, 2, none⟩ = some (.int .i64 a0_2) := (blk_cell BK662.out 2).trans rfl; have hcz4_3 : w3.cell? ⟨gb662, 3, none⟩ = some (.int .i64 a0_3) := (blk_cell BK662.out 3).trans rfl; have hfz4_0 := blk_frozen BK662.out 0; have hfz4_1 := blk_frozen BK662.out 1; have hfz4_2 := blk_frozen BK662.out 2; have hfz4_3 := blk_frozen BK662.out 3))
    go_ret
    exact ⟨by first | rfl | (simp [errW_none, errW_some] <;> rfl) | (simp [*, errW_none, errW_some] <;> rfl), by repeat (first | (with_reducible first | exact HB.out | apply below_alloc | apply pw_below_drewN | apply below_drew1 | refine below_set ?_ GE662.out) | exact HB.out)⟩
  · rw [if_neg c2] at H
    have c2b0 : (a0_3 == 0) = false := beq_eq_false_iff_ne.mpr c2
    have c2b1 : (a0_3 != 0) = true := bne_iff_ne.mpr c2
    obtain rfl := Option.some.inj H
    go_enter Try.func100, Try.ntmps100
    go_wp2_with (first | ((with_reducible refine gate_dst (N := 1) rfl ?_); refine box_event ?hg (N := 1) ?hd (cs := #[.int .i64 a0_0, .int .i64 a0_1, .int .i64 a0_2, .int .i64 a0_3]) (t := 42) ?hr ?_; (case hd => rfl); (case hg => rfl); (case hr => first | (go_simp; done) | (go_simp; rfl)); intro gb662 hg w5 hbox hb; have n0_ := Aside0.mk (below_step (by repeat (first | (with_reducible first | exact HB.out | apply below_alloc | apply pw_below_drewN | apply below_drew1) | exact HB.out)) hb); have n1_ := Aside0.mk (hbox); have n2_ := Aside0.mk ((by rw [hg]; exact (below_size (by repeat (first | (with_reducible first | exact HB.out | apply below_alloc | apply pw_below_drewN | apply below_drew1) | exact HB.out))) : w.heap.size ≤ gb662)); have n3_ := Aside0.mk ((by rw [hg]; exact (below_size (by repeat (first | (with_reducible first | exact HB.out | apply below_alloc | apply pw_below_drewN | apply below_drew1) | exact HB.out))) : w.heap.size ≤ gb662)); clear HB; have HB := n0_; have BK662 := n1_; have GW662 := n2_; have GE662 := n3_; clear n0_ n1_ n2_ n3_; clear hb hbox hg; have hcz6_0 : w5.cell? ⟨gb662, 0, none⟩ = some (.int .i64 a0_0) := (blk_cell BK662.out 0).trans rfl; have hcz6_1 : w5.cell? ⟨gb662, 1, none⟩ = some (.int .i64 a0_1) := (blk_cell BK662.out 1).trans rfl; have hcz6_2 : w5.cell? ⟨gb662, 2, none⟩ = some (.int .i64 a0_2) := (blk_cell BK662.out 2).trans rfl; have hcz6_3 : w5.cell? ⟨gb662, 3, none⟩ = some (.int .i64 a0_3) := (blk_cell BK662.out 3).trans rfl; have hfz6_0 := blk_frozen BK662.out 0; have hfz6_1 := blk_frozen BK662.out 1; have hfz6_2 := blk_frozen BK662.out 2; have hfz6_3 := blk_frozen BK662.out 3))
    go_ret
    exact ⟨by first | rfl | (simp [errW_none, errW_some] <;> rfl) | (simp [*, errW_none, errW_some] <;> rfl), by repeat (first | (with_reducible first | exact HB.out | apply below_alloc | apply pw_below_drewN | apply below_drew1 | refine below_set ?_ GE662.out) | exact HB.out)⟩
def vinculumref09_Many.l0 : Nat → List (S42) → Int → Bool → Int → Option (Int × Int × Int)
  | 0, _, _, _, _ => none
  | k + 1, x0, x5, x6, x7 => if x7 < (x0.length : Int) then (if 0 ≤ x7 then (if ((rd_T42 x0 x7).f1) > 65535 then (some (0, 0, 7)) else ((vinculumref09_row.f ((rd_T42 x0 x7).f0) ((rd_T42 x0 x7).f1) ((rd_T42 x0 x7).f2) ((rd_T42 x0 x7).f3)).bind fun t669 => (if t669 = true then (if x6 = true then (vinculumref09_Many.l0 k x0 (wrap64 ((wrap64 ((wrap64 (x5 + ((rd_T42 x0 x7).f1))) - ((rd_T42 x0 x7).f0))) + 1)) true (wrap64 (x7 + 1))) else (vinculumref09_Many.l0 k x0 (wrap64 ((wrap64 ((wrap64 (x5 + ((rd_T42 x0 x7).f1))) - ((rd_T42 x0 x7).f0))) + 1)) (((rd_T42 x0 x7).f1) == 65535) (wrap64 (x7 + 1)))) else (if x6 = true then (vinculumref09_Many.l0 k x0 x5 true (wrap64 (x7 + 1))) else (vinculumref09_Many.l0 k x0 x5 (((rd_T42 x0 x7).f1) == 65535) (wrap64 (x7 + 1))))))) else (none)) else (if x6 = true then (if (wrap64 ((wrap64 (16 + (wrap64 (8 * (x0.length : Int))))) + (wrap64 (2 * x5)))) > 65535 then (some (0, 0, 7)) else (some ((x0.length : Int), x5, 0))) else (if (wrap64 ((wrap64 (16 + (wrap64 (8 * (wrap64 ((x0.length : Int) + 1)))))) + (wrap64 (2 * x5)))) > 65535 then (some (0, 0, 7)) else (some (wrap64 ((x0.length : Int) + 1), x5, 0))))
def vinculumref09_Many.f (k : Nat) (l0 : List (S42)) : Option (Int × Int × Int) := (vinculumref08_Is.f k l0).bind fun t663 => (if t663 = true then ((vinculumref09_kept.f k l0).bind fun t664 => (vinculumref09_Many.l0 k t664 0 false 0)) else (some (0, 0, 1)))
set_option maxHeartbeats 8000000 in
set_option maxRecDepth 100000 in
theorem vinculumref09_Many.calls (k : Nat) (A0 : Option Addr) (c0 : Nat) (l0 : List (S42)) (r1 : Int) (r2 : Int) (r3 : Int) (w : World) (hr0 : Kd.C k42 w A0 l0.length l0) (hc0 : l0.length ≤ c0) (h : vinculumref09_Many.f k l0 = some (r1, r2, r3)) :
    Calls Try.prog 54 #[.slice A0 l0.length c0] w fun e w' => e = .returned (.tuple #[.int .i64 r1, .int .i64 r2, .int .i64 r3]) ∧ Below w.heap.size w w' := by
  have hu42 := Try.underlying42
  have HR0 := Aside0.mk hr0
  have HC0 := Aside0.mk hc0
  clear hr0 hc0
  have HB := Aside0.mk (Below.refl w.heap.size w)
  have H : ((vinculumref08_Is.f k l0).bind fun t663 => (if t663 = true then ((vinculumref09_kept.f k l0).bind fun t664 => (vinculumref09_Many.l0 k t664 0 false 0)) else (some (0, 0, 1)))) = some (r1, r2, r3) := h
  clear h
  replace H := Option.bind_eq_some_iff.mp H
  obtain ⟨t663, A20, H⟩ := H
  replace H : (if t663 = true then ((vinculumref09_kept.f k l0).bind fun t664 => (vinculumref09_Many.l0 k t664 0 false 0)) else (some (0, 0, 1))) = some (r1, r2, r3) := H
  have A2 := Aside0.mk A20
  clear A20
  by_cases c3 : t663 = true
  · subst c3
    have H1 : ((vinculumref09_kept.f k l0).bind fun t664 => (vinculumref09_Many.l0 k t664 0 false 0)) = some (r1, r2, r3) := by rw [if_pos rfl] at H; exact H
    clear H
    have H := H1
    clear H1
    replace H := Option.bind_eq_some_iff.mp H
    obtain ⟨t664, A40, H⟩ := H
    replace H : (vinculumref09_Many.l0 k t664 0 false 0) = some (r1, r2, r3) := H
    have A4 := Aside0.mk A40
    clear A40
    have H' := Aside0.mk H
    clear H
    go_enter Try.func54, Try.ntmps54
    go_wp2_with (first | (go_at_call 46; (with_reducible refine (vinculumref08_Is.calls k _ _ l0 true _ ?side1 ?side2 A2.out).mono ?_); (case side1 => repeat (first | exact HR0.out | (with_reducible refine Kd.C_alloc ?_ _) | (with_reducible refine Kd.C_drewN ?_ _) | (with_reducible refine Kd.C_drew ?_))); (case side2 => exact HC0.out); rintro e w5 ⟨rfl, hb⟩; have n0_ := Aside0.mk (below_step (by repeat (first | (with_reducible first | exact HB.out | apply below_alloc | apply pw_below_drewN | apply below_drew1) | exact HB.out)) hb); clear HB; have HB := n0_; clear n0_; (try clear hb); (try clear hb2); (try clear hk); (try clear hi)) | (go_at_call 99; (with_reducible refine (vinculumref09_kept.calls k _ _ l0 t664 _ ?side1 ?side2 A4.out).mono ?_); (case side1 => repeat (first | exact (Kd.C_below HR0.out HB.out) | (with_reducible refine Kd.C_alloc ?_ _) | (with_reducible refine Kd.C_drewN ?_ _) | (with_reducible refine Kd.C_drew ?_))); (case side2 => exact HC0.out); rintro e w6 ⟨v665, rfl, ho0, hb⟩; have n0_ := Aside0.mk (Kd.R_lower ho0 (below_size (by repeat (first | (with_reducible first | exact HB.out | apply below_alloc | apply pw_below_drewN | apply below_drew1) | exact HB.out)))); have n1_ := Aside0.mk (below_step (by repeat (first | (with_reducible first | exact HB.out | apply below_alloc | apply pw_below_drewN | apply below_drew1) | exact HB.out)) hb); clear HB; have HO666 := n0_; have HB := n1_; clear n0_ n1_; (try clear hb); (try clear hb2); (try clear hk); (try clear hi); (try clear ho0)))
    repeat (go_quiet (first | (go_at_call 46; (with_reducible refine (vinculumref08_Is.calls k _ _ l0 true _ ?side1 ?side2 A2.out).mono ?_); (case side1 => repeat (first | exact HR0.out | (with_reducible refine Kd.C_alloc ?_ _) | (with_reducible refine Kd.C_drewN ?_ _) | (with_reducible refine Kd.C_drew ?_))); (case side2 => exact HC0.out); rintro e w5 ⟨rfl, hb⟩; have n0_ := Aside0.mk (below_step (by repeat (first | (with_reducible first | exact HB.out | apply below_alloc | apply pw_below_drewN | apply below_drew1) | exact HB.out)) hb); clear HB; have HB := n0_; clear n0_; (try clear hb); (try clear hb2); (try clear hk); (try clear hi)) | (go_at_call 99; (with_reducible refine (vinculumref09_kept.calls k _ _ l0 t664 _ ?side1 ?side2 A4.out).mono ?_); (case side1 => repeat (first | exact (Kd.C_below HR0.out HB.out) | (with_reducible refine Kd.C_alloc ?_ _) | (with_reducible refine Kd.C_drewN ?_ _) | (with_reducible refine Kd.C_drew ?_))); (case side2 => exact HC0.out); rintro e w6 ⟨v665, rfl, ho0, hb⟩; have n0_ := Aside0.mk (Kd.R_lower ho0 (below_size (by repeat (first | (with_reducible first | exact HB.out | apply below_alloc | apply pw_below_drewN | apply below_drew1) | exact HB.out)))); have n1_ := Aside0.mk (below_step (by repeat (first | (with_reducible first | exact HB.out | apply below_alloc | apply pw_below_drewN | apply below_drew1) | exact HB.out)) hb); clear HB; have HO666 := n0_; have HB := n1_; clear n0_ n1_; (try clear hb); (try clear hb2); (try clear hk); (try clear hi); (try clear ho0))); try go_wp2_with (first | (go_at_call 46; (with_reducible refine (vinculumref08_Is.calls k _ _ l0 true _ ?side1 ?side2 A2.out).mono ?_); (case side1 => repeat (first | exact HR0.out | (with_reducible refine Kd.C_alloc ?_ _) | (with_reducible refine Kd.C_drewN ?_ _) | (with_reducible refine Kd.C_drew ?_))); (case side2 => exact HC0.out); rintro e w5 ⟨rfl, hb⟩; have n0_ := Aside0.mk (below_step (by repeat (first | (with_reducible first | exact HB.out | apply below_alloc | apply pw_below_drewN | apply below_drew1) | exact HB.out)) hb); clear HB; have HB := n0_; clear n0_; (try clear hb); (try clear hb2); (try clear hk); (try clear hi)) | (go_at_call 99; (with_reducible refine (vinculumref09_kept.calls k _ _ l0 t664 _ ?side1 ?side2 A4.out).mono ?_); (case side1 => repeat (first | exact (Kd.C_below HR0.out HB.out) | (with_reducible refine Kd.C_alloc ?_ _) | (with_reducible refine Kd.C_drewN ?_ _) | (with_reducible refine Kd.C_drew ?_))); (case side2 => exact HC0.out); rintro e w6 ⟨v665, rfl, ho0, hb⟩; have n0_ := Aside0.mk (Kd.R_lower ho0 (below_size (by repeat (first | (with_reducible first | exact HB.out | apply below_alloc | apply pw_below_drewN | apply below_drew1) | exact HB.out)))); have n1_ := Aside0.mk (below_step (by repeat (first | (with_reducible first | exact HB.out | apply below_alloc | apply pw_below_drewN | apply below_drew1) | exact HB.out)) hb); clear HB; have HO666 := n0_; have HB := n1_; clear n0_ n1_; (try clear hb); (try clear hb2); (try clear hk); (try clear hi); (try clear ho0))))
    go_loopg [5, 6, 7] k (fun kq v5 v6 v7 w' => ∃ (x5_1 : Int) (x6_1 : Bool) (x7_1 : Int), v5 = .int .i64 x5_1 ∧ v6 = .bool x6_1 ∧ v7 = .int .i64 x7_1 ∧ Aside0 (vinculumref09_Many.l0 kq t664 x5_1 x6_1 x7_1 = some (r1, r2, r3)) ∧ Aside0 (kq ≤ k) ∧ Aside0 (Kd.R k42 42 w' w.heap.size (fun _ => True) v665 t664) ∧ Aside0 (Below w.heap.size w w'))
    case atStart => exact ⟨(0), (false), (0), (by first | rfl | (simp; done) | (simp [*]; done)), (by first | rfl | (simp; done) | (simp [*]; done)), (by first | rfl | (simp; done) | (simp [*]; done)), H', ⟨Nat.le_refl _⟩, ⟨by (with_reducible repeat (first | apply Kd.R_alloc | apply Kd.R_drewN | apply Kd.R_drew)); exact HO666.out⟩, ⟨by repeat (first | (with_reducible first | exact HB.out | apply below_alloc | apply pw_below_drewN | apply below_drew1) | exact HB.out)⟩⟩
    case round =>
      clear H'
      try clear p2
      try clear c3
      try clear c5
      obtain ⟨x5_1, x6_1, x7_1, rfl, rfl, rfl, HA, HK1, HO_0, HB⟩ := hrel
      cases gk with
      | zero => exact absurd HA.out (by simp [vinculumref09_Many.l0])
      | succ k1 =>
        have H := HA.out
        clear HA
        simp only [vinculumref09_Many.l0] at H
        by_cases c7 : x7_1 < (t664.length : Int)
        · rw [if_pos c7] at H
          have c7b0 : decide (x7_1 < (t664.length : Int)) = true := decide_eq_true c7
          clear c7
          by_cases c8 : 0 ≤ x7_1
          · rw [if_pos c8] at H
            have c8b0 : decide (0 ≤ x7_1) = true := decide_eq_true c8
            clear c8
            by_cases c9 : ((rd_T42 t664 x7_1).f1) > 65535
            · rw [if_pos c9] at H
              have c9b0 : decide (65535 < ((rd_T42 t664 x7_1).f1)) = true := decide_eq_true c9
              clear c9
              simp only [Option.some.injEq, Prod.mk.injEq] at H
              obtain ⟨rfl, rfl, rfl⟩ := H
              obtain ⟨Ao10, co10, eo10⟩ := Kd.R_slice HO_0.out
              subst eo10
              have p667 : 0 ≤ (x7_1 : Int) := of_decide_eq_true (by first | (with_reducible assumption) | assumption)
              have q667 : x7_1 < (t664.length : Int) := of_decide_eq_true (by first | (with_reducible assumption) | assumption)
              obtain ⟨ad667, e667, hx667_0, hx667_1, hx667_2, hx667_3⟩ := at_T42 (Kd.R_reads' HO_0.out).2.2 x7_1 p667 q667
              cases e667
              replace p667 := eq_true p667
              replace q667 := eq_true q667
              go_wp2
              repeat (go_quiet (fail); try go_wp2)
              go_ret3
              exact ⟨by first | rfl | (simp [errW_none, errW_some] <;> rfl) | (simp [*, errW_none, errW_some] <;> rfl), by repeat (first | (with_reducible first | exact HB.out | apply below_alloc | apply pw_below_drewN | apply below_drew1) | exact HB.out)⟩
            · rw [if_neg c9] at H
              have c9b0 : decide (65535 < ((rd_T42 t664 x7_1).f1)) = false := decide_eq_false c9
              clear c9
              replace H := Option.bind_eq_some_iff.mp H
              obtain ⟨t669, A110, H⟩ := H
              replace H : (if t669 = true then (if x6_1 = true then (vinculumref09_Many.l0 k1 t664 (wrap64 ((wrap64 ((wrap64 (x5_1 + ((rd_T42 t664 x7_1).f1))) - ((rd_T42 t664 x7_1).f0))) + 1)) true (wrap64 (x7_1 + 1))) else (vinculumref09_Many.l0 k1 t664 (wrap64 ((wrap64 ((wrap64 (x5_1 + ((rd_T42 t664 x7_1).f1))) - ((rd_T42 t664 x7_1).f0))) + 1)) (((rd_T42 t664 x7_1).f1) == 65535) (wrap64 (x7_1 + 1)))) else (if x6_1 = true then (vinculumref09_Many.l0 k1 t664 x5_1 true (wrap64 (x7_1 + 1))) else (vinculumref09_Many.l0 k1 t664 x5_1 (((rd_T42 t664 x7_1).f1) == 65535) (wrap64 (x7_1 + 1))))) = some (r1, r2, r3) := H
              have A11 := Aside0.mk A110
              clear A110
              by_cases c12 : t669 = true
              · subst c12
                have H1 : (if x6_1 = true then (vinculumref09_Many.l0 k1 t664 (wrap64 ((wrap64 ((wrap64 (x5_1 + ((rd_T42 t664 x7_1).f1))) - ((rd_T42 t664 x7_1).f0))) + 1)) true (wrap64 (x7_1 + 1))) else (vinculumref09_Many.l0 k1 t664 (wrap64 ((wrap64 ((wrap64 (x5_1 + ((rd_T42 t664 x7_1).f1))) - ((rd_T42 t664 x7_1).f0))) + 1)) (((rd_T42 t664 x7_1).f1) == 65535) (wrap64 (x7_1 + 1)))) = some (r1, r2, r3) := by rw [if_pos rfl] at H; exact H
                clear H
                have H := H1
                clear H1
                by_cases c13 : x6_1 = true
                · subst c13
                  have H1 : (vinculumref09_Many.l0 k1 t664 (wrap64 ((wrap64 ((wrap64 (x5_1 + ((rd_T42 t664 x7_1).f1))) - ((rd_T42 t664 x7_1).f0))) + 1)) true (wrap64 (x7_1 + 1))) = some (r1, r2, r3) := by rw [if_pos rfl] at H; exact H
                  clear H
                  have H := H1
                  clear H1
                  have H' := Aside0.mk H
                  clear H
                  obtain ⟨Ao14, co14, eo14⟩ := Kd.R_slice HO_0.out
                  subst eo14
                  have p667 : 0 ≤ (x7_1 : Int) := of_decide_eq_true (by first | (with_reducible assumption) | assumption)
                  have q667 : x7_1 < (t664.length : Int) := of_decide_eq_true (by first | (with_reducible assumption) | assumption)
                  obtain ⟨ad667, e667, hx667_0, hx667_1, hx667_2, hx667_3⟩ := at_T42 (Kd.R_reads' HO_0.out).2.2 x7_1 p667 q667
                  cases e667
                  replace p667 := eq_true p667
                  replace q667 := eq_true q667
                  have p668 : 0 ≤ (x7_1 : Int) := of_decide_eq_true (by first | (with_reducible assumption) | assumption)
                  have q668 : x7_1 < (t664.length : Int) := of_decide_eq_true (by first | (with_reducible assumption) | assumption)
                  obtain ⟨ad668, e668, hx668_0, hx668_1, hx668_2, hx668_3⟩ := at_T42 (Kd.R_reads' HO_0.out).2.2 x7_1 p668 q668
                  obtain rfl : ad667 = ad668 := (by injection e668)
                  replace p668 := eq_true p668
                  replace q668 := eq_true q668
                  go_wp2_with (first | (go_at_call 100; (with_reducible refine (vinculumref09_row.calls ((rd_T42 t664 x7_1).f0) ((rd_T42 t664 x7_1).f1) ((rd_T42 t664 x7_1).f2) ((rd_T42 t664 x7_1).f3) true _ A11.out).mono ?_); rintro e w15 ⟨rfl, hb⟩; have n0_ := Aside0.mk (Kd.R_below (by (with_reducible repeat (first | apply Kd.R_alloc | apply Kd.R_drewN | apply Kd.R_drew)); exact HO_0.out) hb); have n1_ := Aside0.mk (below_step (by repeat (first | (with_reducible first | exact HB.out | apply below_alloc | apply pw_below_drewN | apply below_drew1) | exact HB.out)) hb); clear HO_0; clear HB; have HO_0 := n0_; have HB := n1_; clear n0_ n1_; (try clear hb); (try clear hb2); (try clear hk); (try clear hi); have p670 : 0 ≤ (x7_1 : Int) := of_decide_eq_true (by first | (with_reducible assumption) | assumption); have q670 : x7_1 < (t664.length : Int) := of_decide_eq_true (by first | (with_reducible assumption) | assumption); obtain ⟨ad670, e670, hx670_0, hx670_1, hx670_2, hx670_3⟩ := at_T42 (Kd.R_reads' HO_0.out).2.2 x7_1 p670 q670; obtain rfl : ad667 = ad670 := (by injection e670); replace p670 := eq_true p670; replace q670 := eq_true q670; have p671 : 0 ≤ (x7_1 : Int) := of_decide_eq_true (by first | (with_reducible assumption) | assumption); have q671 : x7_1 < (t664.length : Int) := of_decide_eq_true (by first | (with_reducible assumption) | assumption); obtain ⟨ad671, e671, hx671_0, hx671_1, hx671_2, hx671_3⟩ := at_T42 (Kd.R_reads' HO_0.out).2.2 x7_1 p671 q671; obtain rfl : ad667 = ad671 := (by injection e671); replace p671 := eq_true p671; replace q671 := eq_true q671))
                  repeat (go_quiet (first | (go_at_call 100; (with_reducible refine (vinculumref09_row.calls ((rd_T42 t664 x7_1).f0) ((rd_T42 t664 x7_1).f1) ((rd_T42 t664 x7_1).f2) ((rd_T42 t664 x7_1).f3) true _ A11.out).mono ?_); rintro e w15 ⟨rfl, hb⟩; have n0_ := Aside0.mk (Kd.R_below (by (with_reducible repeat (first | apply Kd.R_alloc | apply Kd.R_drewN | apply Kd.R_drew)); exact HO_0.out) hb); have n1_ := Aside0.mk (below_step (by repeat (first | (with_reducible first | exact HB.out | apply below_alloc | apply pw_below_drewN | apply below_drew1) | exact HB.out)) hb); clear HO_0; clear HB; have HO_0 := n0_; have HB := n1_; clear n0_ n1_; (try clear hb); (try clear hb2); (try clear hk); (try clear hi); have p670 : 0 ≤ (x7_1 : Int) := of_decide_eq_true (by first | (with_reducible assumption) | assumption); have q670 : x7_1 < (t664.length : Int) := of_decide_eq_true (by first | (with_reducible assumption) | assumption); obtain ⟨ad670, e670, hx670_0, hx670_1, hx670_2, hx670_3⟩ := at_T42 (Kd.R_reads' HO_0.out).2.2 x7_1 p670 q670; obtain rfl : ad667 = ad670 := (by injection e670); replace p670 := eq_true p670; replace q670 := eq_true q670; have p671 : 0 ≤ (x7_1 : Int) := of_decide_eq_true (by first | (with_reducible assumption) | assumption); have q671 : x7_1 < (t664.length : Int) := of_decide_eq_true (by first | (with_reducible assumption) | assumption); obtain ⟨ad671, e671, hx671_0, hx671_1, hx671_2, hx671_3⟩ := at_T42 (Kd.R_reads' HO_0.out).2.2 x7_1 p671 q671; obtain rfl : ad667 = ad671 := (by injection e671); replace p671 := eq_true p671; replace q671 := eq_true q671)); try go_wp2_with (first | (go_at_call 100; (with_reducible refine (vinculumref09_row.calls ((rd_T42 t664 x7_1).f0) ((rd_T42 t664 x7_1).f1) ((rd_T42 t664 x7_1).f2) ((rd_T42 t664 x7_1).f3) true _ A11.out).mono ?_); rintro e w15 ⟨rfl, hb⟩; have n0_ := Aside0.mk (Kd.R_below (by (with_reducible repeat (first | apply Kd.R_alloc | apply Kd.R_drewN | apply Kd.R_drew)); exact HO_0.out) hb); have n1_ := Aside0.mk (below_step (by repeat (first | (with_reducible first | exact HB.out | apply below_alloc | apply pw_below_drewN | apply below_drew1) | exact HB.out)) hb); clear HO_0; clear HB; have HO_0 := n0_; have HB := n1_; clear n0_ n1_; (try clear hb); (try clear hb2); (try clear hk); (try clear hi); have p670 : 0 ≤ (x7_1 : Int) := of_decide_eq_true (by first | (with_reducible assumption) | assumption); have q670 : x7_1 < (t664.length : Int) := of_decide_eq_true (by first | (with_reducible assumption) | assumption); obtain ⟨ad670, e670, hx670_0, hx670_1, hx670_2, hx670_3⟩ := at_T42 (Kd.R_reads' HO_0.out).2.2 x7_1 p670 q670; obtain rfl : ad667 = ad670 := (by injection e670); replace p670 := eq_true p670; replace q670 := eq_true q670; have p671 : 0 ≤ (x7_1 : Int) := of_decide_eq_true (by first | (with_reducible assumption) | assumption); have q671 : x7_1 < (t664.length : Int) := of_decide_eq_true (by first | (with_reducible assumption) | assumption); obtain ⟨ad671, e671, hx671_0, hx671_1, hx671_2, hx671_3⟩ := at_T42 (Kd.R_reads' HO_0.out).2.2 x7_1 p671 q671; obtain rfl : ad667 = ad671 := (by injection e671); replace p671 := eq_true p671; replace q671 := eq_true q671)))
                  go_roundg k1
                  case measure => have := HK1.out; omega
                  case rel => exact ⟨(wrap64 ((wrap64 ((wrap64 (x5_1 + ((rd_T42 t664 x7_1).f1))) - ((rd_T42 t664 x7_1).f0))) + 1)), (true), (wrap64 (x7_1 + 1)), (by first | rfl | (simp; done) | (simp [*]; done)), (by first | rfl | (simp; done) | (simp [*]; done)), (by first | rfl | (simp; done) | (simp [*]; done)), H', ⟨by have := HK1.out; omega⟩, ⟨by (with_reducible repeat (first | apply Kd.R_alloc | apply Kd.R_drewN | apply Kd.R_drew)); exact HO_0.out⟩, ⟨by repeat (first | (with_reducible first | exact HB.out | apply below_alloc | apply pw_below_drewN | apply below_drew1) | exact HB.out)⟩⟩
                · replace c13 := Bool.eq_false_iff.mpr c13
                  subst c13
                  have H1 : (vinculumref09_Many.l0 k1 t664 (wrap64 ((wrap64 ((wrap64 (x5_1 + ((rd_T42 t664 x7_1).f1))) - ((rd_T42 t664 x7_1).f0))) + 1)) (((rd_T42 t664 x7_1).f1) == 65535) (wrap64 (x7_1 + 1))) = some (r1, r2, r3) := by rw [if_neg (show ¬ (false = true) by decide)] at H; exact H
                  clear H
                  have H := H1
                  clear H1
                  have H' := Aside0.mk H
                  clear H
                  obtain ⟨Ao16, co16, eo16⟩ := Kd.R_slice HO_0.out
                  subst eo16
                  have p667 : 0 ≤ (x7_1 : Int) := of_decide_eq_true (by first | (with_reducible assumption) | assumption)
                  have q667 : x7_1 < (t664.length : Int) := of_decide_eq_true (by first | (with_reducible assumption) | assumption)
                  obtain ⟨ad667, e667, hx667_0, hx667_1, hx667_2, hx667_3⟩ := at_T42 (Kd.R_reads' HO_0.out).2.2 x7_1 p667 q667
                  cases e667
                  replace p667 := eq_true p667
                  replace q667 := eq_true q667
                  have p668 : 0 ≤ (x7_1 : Int) := of_decide_eq_true (by first | (with_reducible assumption) | assumption)
                  have q668 : x7_1 < (t664.length : Int) := of_decide_eq_true (by first | (with_reducible assumption) | assumption)
                  obtain ⟨ad668, e668, hx668_0, hx668_1, hx668_2, hx668_3⟩ := at_T42 (Kd.R_reads' HO_0.out).2.2 x7_1 p668 q668
                  obtain rfl : ad667 = ad668 := (by injection e668)
                  replace p668 := eq_true p668
                  replace q668 := eq_true q668
                  go_wp2_with (first | (go_at_call 100; (with_reducible refine (vinculumref09_row.calls ((rd_T42 t664 x7_1).f0) ((rd_T42 t664 x7_1).f1) ((rd_T42 t664 x7_1).f2) ((rd_T42 t664 x7_1).f3) true _ A11.out).mono ?_); rintro e w17 ⟨rfl, hb⟩; have n0_ := Aside0.mk (Kd.R_below (by (with_reducible repeat (first | apply Kd.R_alloc | apply Kd.R_drewN | apply Kd.R_drew)); exact HO_0.out) hb); have n1_ := Aside0.mk (below_step (by repeat (first | (with_reducible first | exact HB.out | apply below_alloc | apply pw_below_drewN | apply below_drew1) | exact HB.out)) hb); clear HO_0; clear HB; have HO_0 := n0_; have HB := n1_; clear n0_ n1_; (try clear hb); (try clear hb2); (try clear hk); (try clear hi); have p670 : 0 ≤ (x7_1 : Int) := of_decide_eq_true (by first | (with_reducible assumption) | assumption); have q670 : x7_1 < (t664.length : Int) := of_decide_eq_true (by first | (with_reducible assumption) | assumption); obtain ⟨ad670, e670, hx670_0, hx670_1, hx670_2, hx670_3⟩ := at_T42 (Kd.R_reads' HO_0.out).2.2 x7_1 p670 q670; obtain rfl : ad667 = ad670 := (by injection e670); replace p670 := eq_true p670; replace q670 := eq_true q670; have p671 : 0 ≤ (x7_1 : Int) := of_decide_eq_true (by first | (with_reducible assumption) | assumption); have q671 : x7_1 < (t664.length : Int) := of_decide_eq_true (by first | (with_reducible assumption) | assumption); obtain ⟨ad671, e671, hx671_0, hx671_1, hx671_2, hx671_3⟩ := at_T42 (Kd.R_reads' HO_0.out).2.2 x7_1 p671 q671; obtain rfl : ad667 = ad671 := (by injection e671); replace p671 := eq_true p671; replace q671 := eq_true q671; have p672 : 0 ≤ (x7_1 : Int) := of_decide_eq_true (by first | (with_reducible assumption) | assumption); have q672 : x7_1 < (t664.length : Int) := of_decide_eq_true (by first | (with_reducible assumption) | assumption); obtain ⟨ad672, e672, hx672_0, hx672_1, hx672_2, hx672_3⟩ := at_T42 (Kd.R_reads' HO_0.out).2.2 x7_1 p672 q672; obtain rfl : ad667 = ad672 := (by injection e672); replace p672 := eq_true p672; replace q672 := eq_true q672))
                  repeat (go_quiet (first | (go_at_call 100; (with_reducible refine (vinculumref09_row.calls ((rd_T42 t664 x7_1).f0) ((rd_T42 t664 x7_1).f1) ((rd_T42 t664 x7_1).f2) ((rd_T42 t664 x7_1).f3) true _ A11.out).mono ?_); rintro e w17 ⟨rfl, hb⟩; have n0_ := Aside0.mk (Kd.R_below (by (with_reducible repeat (first | apply Kd.R_alloc | apply Kd.R_drewN | apply Kd.R_drew)); exact HO_0.out) hb); have n1_ := Aside0.mk (below_step (by repeat (first | (with_reducible first | exact HB.out | apply below_alloc | apply pw_below_drewN | apply below_drew1) | exact HB.out)) hb); clear HO_0; clear HB; have HO_0 := n0_; have HB := n1_; clear n0_ n1_; (try clear hb); (try clear hb2); (try clear hk); (try clear hi); have p670 : 0 ≤ (x7_1 : Int) := of_decide_eq_true (by first | (with_reducible assumption) | assumption); have q670 : x7_1 < (t664.length : Int) := of_decide_eq_true (by first | (with_reducible assumption) | assumption); obtain ⟨ad670, e670, hx670_0, hx670_1, hx670_2, hx670_3⟩ := at_T42 (Kd.R_reads' HO_0.out).2.2 x7_1 p670 q670; obtain rfl : ad667 = ad670 := (by injection e670); replace p670 := eq_true p670; replace q670 := eq_true q670; have p671 : 0 ≤ (x7_1 : Int) := of_decide_eq_true (by first | (with_reducible assumption) | assumption); have q671 : x7_1 < (t664.length : Int) := of_decide_eq_true (by first | (with_reducible assumption) | assumption); obtain ⟨ad671, e671, hx671_0, hx671_1, hx671_2, hx671_3⟩ := at_T42 (Kd.R_reads' HO_0.out).2.2 x7_1 p671 q671; obtain rfl : ad667 = ad671 := (by injection e671); replace p671 := eq_true p671; replace q671 := eq_true q671; have p672 : 0 ≤ (x7_1 : Int) := of_decide_eq_true (by first | (with_reducible assumption) | assumption); have q672 : x7_1 < (t664.length : Int) := of_decide_eq_true (by first | (with_reducible assumption) | assumption); obtain ⟨ad672, e672, hx672_0, hx672_1, hx672_2, hx672_3⟩ := at_T42 (Kd.R_reads' HO_0.out).2.2 x7_1 p672 q672; obtain rfl : ad667 = ad672 := (by injection e672); replace p672 := eq_true p672; replace q672 := eq_true q672)); try go_wp2_with (first | (go_at_call 100; (with_reducible refine (vinculumref09_row.calls ((rd_T42 t664 x7_1).f0) ((rd_T42 t664 x7_1).f1) ((rd_T42 t664 x7_1).f2) ((rd_T42 t664 x7_1).f3) true _ A11.out).mono ?_); rintro e w17 ⟨rfl, hb⟩; have n0_ := Aside0.mk (Kd.R_below (by (with_reducible repeat (first | apply Kd.R_alloc | apply Kd.R_drewN | apply Kd.R_drew)); exact HO_0.out) hb); have n1_ := Aside0.mk (below_step (by repeat (first | (with_reducible first | exact HB.out | apply below_alloc | apply pw_below_drewN | apply below_drew1) | exact HB.out)) hb); clear HO_0; clear HB; have HO_0 := n0_; have HB := n1_; clear n0_ n1_; (try clear hb); (try clear hb2); (try clear hk); (try clear hi); have p670 : 0 ≤ (x7_1 : Int) := of_decide_eq_true (by first | (with_reducible assumption) | assumption); have q670 : x7_1 < (t664.length : Int) := of_decide_eq_true (by first | (with_reducible assumption) | assumption); obtain ⟨ad670, e670, hx670_0, hx670_1, hx670_2, hx670_3⟩ := at_T42 (Kd.R_reads' HO_0.out).2.2 x7_1 p670 q670; obtain rfl : ad667 = ad670 := (by injection e670); replace p670 := eq_true p670; replace q670 := eq_true q670; have p671 : 0 ≤ (x7_1 : Int) := of_decide_eq_true (by first | (with_reducible assumption) | assumption); have q671 : x7_1 < (t664.length : Int) := of_decide_eq_true (by first | (with_reducible assumption) | assumption); obtain ⟨ad671, e671, hx671_0, hx671_1, hx671_2, hx671_3⟩ := at_T42 (Kd.R_reads' HO_0.out).2.2 x7_1 p671 q671; obtain rfl : ad667 = ad671 := (by injection e671); replace p671 := eq_true p671; replace q671 := eq_true q671; have p672 : 0 ≤ (x7_1 : Int) := of_decide_eq_true (by first | (with_reducible assumption) | assumption); have q672 : x7_1 < (t664.length : Int) := of_decide_eq_true (by first | (with_reducible assumption) | assumption); obtain ⟨ad672, e672, hx672_0, hx672_1, hx672_2, hx672_3⟩ := at_T42 (Kd.R_reads' HO_0.out).2.2 x7_1 p672 q672; obtain rfl : ad667 = ad672 := (by injection e672); replace p672 := eq_true p672; replace q672 := eq_true q672)))
                  go_roundg k1
                  case measure => have := HK1.out; omega
                  case rel => exact ⟨(wrap64 ((wrap64 ((wrap64 (x5_1 + ((rd_T42 t664 x7_1).f1))) - ((rd_T42 t664 x7_1).f0))) + 1)), ((((rd_T42 t664 x7_1).f1) == 65535)), (wrap64 (x7_1 + 1)), (by first | rfl | (simp; done) | (simp [*]; done)), (by first | rfl | (simp; done) | (simp [*]; done)), (by first | rfl | (simp; done) | (simp [*]; done)), H', ⟨by have := HK1.out; omega⟩, ⟨by (with_reducible repeat (first | apply Kd.R_alloc | apply Kd.R_drewN | apply Kd.R_drew)); exact HO_0.out⟩, ⟨by repeat (first | (with_reducible first | exact HB.out | apply below_alloc | apply pw_below_drewN | apply below_drew1) | exact HB.out)⟩⟩
              · replace c12 := Bool.eq_false_iff.mpr c12
                subst c12
                have H1 : (if x6_1 = true then (vinculumref09_Many.l0 k1 t664 x5_1 true (wrap64 (x7_1 + 1))) else (vinculumref09_Many.l0 k1 t664 x5_1 (((rd_T42 t664 x7_1).f1) == 65535) (wrap64 (x7_1 + 1)))) = some (r1, r2, r3) := by rw [if_neg (show ¬ (false = true) by decide)] at H; exact H
                clear H
                have H := H1
                clear H1
                by_cases c18 : x6_1 = true
                · subst c18
                  have H1 : (vinculumref09_Many.l0 k1 t664 x5_1 true (wrap64 (x7_1 + 1))) = some (r1, r2, r3) := by rw [if_pos rfl] at H; exact H
                  clear H
                  have H := H1
                  clear H1
                  have H' := Aside0.mk H
                  clear H
                  obtain ⟨Ao19, co19, eo19⟩ := Kd.R_slice HO_0.out
                  subst eo19
                  have p667 : 0 ≤ (x7_1 : Int) := of_decide_eq_true (by first | (with_reducible assumption) | assumption)
                  have q667 : x7_1 < (t664.length : Int) := of_decide_eq_true (by first | (with_reducible assumption) | assumption)
                  obtain ⟨ad667, e667, hx667_0, hx667_1, hx667_2, hx667_3⟩ := at_T42 (Kd.R_reads' HO_0.out).2.2 x7_1 p667 q667
                  cases e667
                  replace p667 := eq_true p667
                  replace q667 := eq_true q667
                  have p668 : 0 ≤ (x7_1 : Int) := of_decide_eq_true (by first | (with_reducible assumption) | assumption)
                  have q668 : x7_1 < (t664.length : Int) := of_decide_eq_true (by first | (with_reducible assumption) | assumption)
                  obtain ⟨ad668, e668, hx668_0, hx668_1, hx668_2, hx668_3⟩ := at_T42 (Kd.R_reads' HO_0.out).2.2 x7_1 p668 q668
                  obtain rfl : ad667 = ad668 := (by injection e668)
                  replace p668 := eq_true p668
                  replace q668 := eq_true q668
                  go_wp2_with (first | (go_at_call 100; (with_reducible refine (vinculumref09_row.calls ((rd_T42 t664 x7_1).f0) ((rd_T42 t664 x7_1).f1) ((rd_T42 t664 x7_1).f2) ((rd_T42 t664 x7_1).f3) false _ A11.out).mono ?_); rintro e w20 ⟨rfl, hb⟩; have n0_ := Aside0.mk (Kd.R_below (by (with_reducible repeat (first | apply Kd.R_alloc | apply Kd.R_drewN | apply Kd.R_drew)); exact HO_0.out) hb); have n1_ := Aside0.mk (below_step (by repeat (first | (with_reducible first | exact HB.out | apply below_alloc | apply pw_below_drewN | apply below_drew1) | exact HB.out)) hb); clear HO_0; clear HB; have HO_0 := n0_; have HB := n1_; clear n0_ n1_; (try clear hb); (try clear hb2); (try clear hk); (try clear hi)))
                  repeat (go_quiet (first | (go_at_call 100; (with_reducible refine (vinculumref09_row.calls ((rd_T42 t664 x7_1).f0) ((rd_T42 t664 x7_1).f1) ((rd_T42 t664 x7_1).f2) ((rd_T42 t664 x7_1).f3) false _ A11.out).mono ?_); rintro e w20 ⟨rfl, hb⟩; have n0_ := Aside0.mk (Kd.R_below (by (with_reducible repeat (first | apply Kd.R_alloc | apply Kd.R_drewN | apply Kd.R_drew)); exact HO_0.out) hb); have n1_ := Aside0.mk (below_step (by repeat (first | (with_reducible first | exact HB.out | apply below_alloc | apply pw_below_drewN | apply below_drew1) | exact HB.out)) hb); clear HO_0; clear HB; have HO_0 := n0_; have HB := n1_; clear n0_ n1_; (try clear hb); (try clear hb2); (try clear hk); (try clear hi))); try go_wp2_with (first | (go_at_call 100; (with_reducible refine (vinculumref09_row.calls ((rd_T42 t664 x7_1).f0) ((rd_T42 t664 x7_1).f1) ((rd_T42 t664 x7_1).f2) ((rd_T42 t664 x7_1).f3) false _ A11.out).mono ?_); rintro e w20 ⟨rfl, hb⟩; have n0_ := Aside0.mk (Kd.R_below (by (with_reducible repeat (first | apply Kd.R_alloc | apply Kd.R_drewN | apply Kd.R_drew)); exact HO_0.out) hb); have n1_ := Aside0.mk (below_step (by repeat (first | (with_reducible first | exact HB.out | apply below_alloc | apply pw_below_drewN | apply below_drew1) | exact HB.out)) hb); clear HO_0; clear HB; have HO_0 := n0_; have HB := n1_; clear n0_ n1_; (try clear hb); (try clear hb2); (try clear hk); (try clear hi))))
                  go_roundg k1
                  case measure => have := HK1.out; omega
                  case rel => exact ⟨(x5_1), (true), (wrap64 (x7_1 + 1)), (by first | rfl | (simp; done) | (simp [*]; done)), (by first | rfl | (simp; done) | (simp [*]; done)), (by first | rfl | (simp; done) | (simp [*]; done)), H', ⟨by have := HK1.out; omega⟩, ⟨by (with_reducible repeat (first | apply Kd.R_alloc | apply Kd.R_drewN | apply Kd.R_drew)); exact HO_0.out⟩, ⟨by repeat (first | (with_reducible first | exact HB.out | apply below_alloc | apply pw_below_drewN | apply below_drew1) | exact HB.out)⟩⟩
                · replace c18 := Bool.eq_false_iff.mpr c18
                  subst c18
                  have H1 : (vinculumref09_Many.l0 k1 t664 x5_1 (((rd_T42 t664 x7_1).f1) == 65535) (wrap64 (x7_1 + 1))) = some (r1, r2, r3) := by rw [if_neg (show ¬ (false = true) by decide)] at H; exact H
                  clear H
                  have H := H1
                  clear H1
                  have H' := Aside0.mk H
                  clear H
                  obtain ⟨Ao21, co21, eo21⟩ := Kd.R_slice HO_0.out
                  subst eo21
                  have p667 : 0 ≤ (x7_1 : Int) := of_decide_eq_true (by first | (with_reducible assumption) | assumption)
                  have q667 : x7_1 < (t664.length : Int) := of_decide_eq_true (by first | (with_reducible assumption) | assumption)
                  obtain ⟨ad667, e667, hx667_0, hx667_1, hx667_2, hx667_3⟩ := at_T42 (Kd.R_reads' HO_0.out).2.2 x7_1 p667 q667
                  cases e667
                  replace p667 := eq_true p667
                  replace q667 := eq_true q667
                  have p668 : 0 ≤ (x7_1 : Int) := of_decide_eq_true (by first | (with_reducible assumption) | assumption)
                  have q668 : x7_1 < (t664.length : Int) := of_decide_eq_true (by first | (with_reducible assumption) | assumption)
                  obtain ⟨ad668, e668, hx668_0, hx668_1, hx668_2, hx668_3⟩ := at_T42 (Kd.R_reads' HO_0.out).2.2 x7_1 p668 q668
                  obtain rfl : ad667 = ad668 := (by injection e668)
                  replace p668 := eq_true p668
                  replace q668 := eq_true q668
                  go_wp2_with (first | (go_at_call 100; (with_reducible refine (vinculumref09_row.calls ((rd_T42 t664 x7_1).f0) ((rd_T42 t664 x7_1).f1) ((rd_T42 t664 x7_1).f2) ((rd_T42 t664 x7_1).f3) false _ A11.out).mono ?_); rintro e w22 ⟨rfl, hb⟩; have n0_ := Aside0.mk (Kd.R_below (by (with_reducible repeat (first | apply Kd.R_alloc | apply Kd.R_drewN | apply Kd.R_drew)); exact HO_0.out) hb); have n1_ := Aside0.mk (below_step (by repeat (first | (with_reducible first | exact HB.out | apply below_alloc | apply pw_below_drewN | apply below_drew1) | exact HB.out)) hb); clear HO_0; clear HB; have HO_0 := n0_; have HB := n1_; clear n0_ n1_; (try clear hb); (try clear hb2); (try clear hk); (try clear hi); have p673 : 0 ≤ (x7_1 : Int) := of_decide_eq_true (by first | (with_reducible assumption) | assumption); have q673 : x7_1 < (t664.length : Int) := of_decide_eq_true (by first | (with_reducible assumption) | assumption); obtain ⟨ad673, e673, hx673_0, hx673_1, hx673_2, hx673_3⟩ := at_T42 (Kd.R_reads' HO_0.out).2.2 x7_1 p673 q673; obtain rfl : ad667 = ad673 := (by injection e673); replace p673 := eq_true p673; replace q673 := eq_true q673))
                  repeat (go_quiet (first | (go_at_call 100; (with_reducible refine (vinculumref09_row.calls ((rd_T42 t664 x7_1).f0) ((rd_T42 t664 x7_1).f1) ((rd_T42 t664 x7_1).f2) ((rd_T42 t664 x7_1).f3) false _ A11.out).mono ?_); rintro e w22 ⟨rfl, hb⟩; have n0_ := Aside0.mk (Kd.R_below (by (with_reducible repeat (first | apply Kd.R_alloc | apply Kd.R_drewN | apply Kd.R_drew)); exact HO_0.out) hb); have n1_ := Aside0.mk (below_step (by repeat (first | (with_reducible first | exact HB.out | apply below_alloc | apply pw_below_drewN | apply below_drew1) | exact HB.out)) hb); clear HO_0; clear HB; have HO_0 := n0_; have HB := n1_; clear n0_ n1_; (try clear hb); (try clear hb2); (try clear hk); (try clear hi); have p673 : 0 ≤ (x7_1 : Int) := of_decide_eq_true (by first | (with_reducible assumption) | assumption); have q673 : x7_1 < (t664.length : Int) := of_decide_eq_true (by first | (with_reducible assumption) | assumption); obtain ⟨ad673, e673, hx673_0, hx673_1, hx673_2, hx673_3⟩ := at_T42 (Kd.R_reads' HO_0.out).2.2 x7_1 p673 q673; obtain rfl : ad667 = ad673 := (by injection e673); replace p673 := eq_true p673; replace q673 := eq_true q673)); try go_wp2_with (first | (go_at_call 100; (with_reducible refine (vinculumref09_row.calls ((rd_T42 t664 x7_1).f0) ((rd_T42 t664 x7_1).f1) ((rd_T42 t664 x7_1).f2) ((rd_T42 t664 x7_1).f3) false _ A11.out).mono ?_); rintro e w22 ⟨rfl, hb⟩; have n0_ := Aside0.mk (Kd.R_below (by (with_reducible repeat (first | apply Kd.R_alloc | apply Kd.R_drewN | apply Kd.R_drew)); exact HO_0.out) hb); have n1_ := Aside0.mk (below_step (by repeat (first | (with_reducible first | exact HB.out | apply below_alloc | apply pw_below_drewN | apply below_drew1) | exact HB.out)) hb); clear HO_0; clear HB; have HO_0 := n0_; have HB := n1_; clear n0_ n1_; (try clear hb); (try clear hb2); (try clear hk); (try clear hi); have p673 : 0 ≤ (x7_1 : Int) := of_decide_eq_true (by first | (with_reducible assumption) | assumption); have q673 : x7_1 < (t664.length : Int) := of_decide_eq_true (by first | (with_reducible assumption) | assumption); obtain ⟨ad673, e673, hx673_0, hx673_1, hx673_2, hx673_3⟩ := at_T42 (Kd.R_reads' HO_0.out).2.2 x7_1 p673 q673; obtain rfl : ad667 = ad673 := (by injection e673); replace p673 := eq_true p673; replace q673 := eq_true q673)))
                  go_roundg k1
                  case measure => have := HK1.out; omega
                  case rel => exact ⟨(x5_1), ((((rd_T42 t664 x7_1).f1) == 65535)), (wrap64 (x7_1 + 1)), (by first | rfl | (simp; done) | (simp [*]; done)), (by first | rfl | (simp; done) | (simp [*]; done)), (by first | rfl | (simp; done) | (simp [*]; done)), H', ⟨by have := HK1.out; omega⟩, ⟨by (with_reducible repeat (first | apply Kd.R_alloc | apply Kd.R_drewN | apply Kd.R_drew)); exact HO_0.out⟩, ⟨by repeat (first | (with_reducible first | exact HB.out | apply below_alloc | apply pw_below_drewN | apply below_drew1) | exact HB.out)⟩⟩
          · rw [if_neg c8] at H
            exact absurd H (by simp)
        · rw [if_neg c7] at H
          have c7b0 : decide (x7_1 < (t664.length : Int)) = false := decide_eq_false c7
          clear c7
          by_cases c23 : x6_1 = true
          · subst c23
            have H1 : (if (wrap64 ((wrap64 (16 + (wrap64 (8 * (t664.length : Int))))) + (wrap64 (2 * x5_1)))) > 65535 then (some (0, 0, 7)) else (some ((t664.length : Int), x5_1, 0))) = some (r1, r2, r3) := by rw [if_pos rfl] at H; exact H
            clear H
            have H := H1
            clear H1
            by_cases c24 : (wrap64 ((wrap64 (16 + (wrap64 (8 * (t664.length : Int))))) + (wrap64 (2 * x5_1)))) > 65535
            · rw [if_pos c24] at H
              have c24b0 : decide (65535 < (wrap64 ((wrap64 (16 + (wrap64 (8 * (t664.length : Int))))) + (wrap64 (2 * x5_1))))) = true := decide_eq_true c24
              clear c24
              simp only [Option.some.injEq, Prod.mk.injEq] at H
              obtain ⟨rfl, rfl, rfl⟩ := H
              obtain ⟨Ao25, co25, eo25⟩ := Kd.R_slice HO_0.out
              subst eo25
              go_wp2
              repeat (go_quiet (fail); try go_wp2)
              go_ret3
              exact ⟨by first | rfl | (simp [errW_none, errW_some] <;> rfl) | (simp [*, errW_none, errW_some] <;> rfl), by repeat (first | (with_reducible first | exact HB.out | apply below_alloc | apply pw_below_drewN | apply below_drew1) | exact HB.out)⟩
            · rw [if_neg c24] at H
              have c24b0 : decide (65535 < (wrap64 ((wrap64 (16 + (wrap64 (8 * (t664.length : Int))))) + (wrap64 (2 * x5_1))))) = false := decide_eq_false c24
              clear c24
              simp only [Option.some.injEq, Prod.mk.injEq] at H
              obtain ⟨rfl, rfl, rfl⟩ := H
              obtain ⟨Ao26, co26, eo26⟩ := Kd.R_slice HO_0.out
              subst eo26
              go_wp2
              repeat (go_quiet (fail); try go_wp2)
              go_ret3
              exact ⟨by first | rfl | (simp [errW_none, errW_some] <;> rfl) | (simp [*, errW_none, errW_some] <;> rfl), by repeat (first | (with_reducible first | exact HB.out | apply below_alloc | apply pw_below_drewN | apply below_drew1) | exact HB.out)⟩
          · replace c23 := Bool.eq_false_iff.mpr c23
            subst c23
            have H1 : (if (wrap64 ((wrap64 (16 + (wrap64 (8 * (wrap64 ((t664.length : Int) + 1)))))) + (wrap64 (2 * x5_1)))) > 65535 then (some (0, 0, 7)) else (some (wrap64 ((t664.length : Int) + 1), x5_1, 0))) = some (r1, r2, r3) := by rw [if_neg (show ¬ (false = true) by decide)] at H; exact H
            clear H
            have H := H1
            clear H1
            by_cases c27 : (wrap64 ((wrap64 (16 + (wrap64 (8 * (wrap64 ((t664.length : Int) + 1)))))) + (wrap64 (2 * x5_1)))) > 65535
            · rw [if_pos c27] at H
              have c27b0 : decide (65535 < (wrap64 ((wrap64 (16 + (wrap64 (8 * (wrap64 ((t664.length : Int) + 1)))))) + (wrap64 (2 * x5_1))))) = true := decide_eq_true c27
              clear c27
              simp only [Option.some.injEq, Prod.mk.injEq] at H
              obtain ⟨rfl, rfl, rfl⟩ := H
              obtain ⟨Ao28, co28, eo28⟩ := Kd.R_slice HO_0.out
              subst eo28
              go_wp2
              repeat (go_quiet (fail); try go_wp2)
              go_ret3
              exact ⟨by first | rfl | (simp [errW_none, errW_some] <;> rfl) | (simp [*, errW_none, errW_some] <;> rfl), by repeat (first | (with_reducible first | exact HB.out | apply below_alloc | apply pw_below_drewN | apply below_drew1) | exact HB.out)⟩
            · rw [if_neg c27] at H
              have c27b0 : decide (65535 < (wrap64 ((wrap64 (16 + (wrap64 (8 * (wrap64 ((t664.length : Int) + 1)))))) + (wrap64 (2 * x5_1))))) = false := decide_eq_false c27
              clear c27
              simp only [Option.some.injEq, Prod.mk.injEq] at H
              obtain ⟨rfl, rfl, rfl⟩ := H
              obtain ⟨Ao29, co29, eo29⟩ := Kd.R_slice HO_0.out
              subst eo29
              go_wp2
              repeat (go_quiet (fail); try go_wp2)
              go_ret3
              exact ⟨by first | rfl | (simp [errW_none, errW_some] <;> rfl) | (simp [*, errW_none, errW_some] <;> rfl), by repeat (first | (with_reducible first | exact HB.out | apply below_alloc | apply pw_below_drewN | apply below_drew1) | exact HB.out)⟩
  · replace c3 := Bool.eq_false_iff.mpr c3
    subst c3
    have H1 : (some (0, 0, 1)) = some (r1, r2, r3) := by rw [if_neg (show ¬ (false = true) by decide)] at H; exact H
    clear H
    have H := H1
    clear H1
    simp only [Option.some.injEq, Prod.mk.injEq] at H
    obtain ⟨rfl, rfl, rfl⟩ := H
    go_enter Try.func54, Try.ntmps54
    go_wp2_with (first | (go_at_call 46; (with_reducible refine (vinculumref08_Is.calls k _ _ l0 false _ ?side1 ?side2 A2.out).mono ?_); (case side1 => repeat (first | exact HR0.out | (with_reducible refine Kd.C_alloc ?_ _) | (with_reducible refine Kd.C_drewN ?_ _) | (with_reducible refine Kd.C_drew ?_))); (case side2 => exact HC0.out); rintro e w30 ⟨rfl, hb⟩; have n0_ := Aside0.mk (below_step (by repeat (first | (with_reducible first | exact HB.out | apply below_alloc | apply pw_below_drewN | apply below_drew1) | exact HB.out)) hb); clear HB; have HB := n0_; clear n0_; (try clear hb); (try clear hb2); (try clear hk); (try clear hi)))
    repeat (go_quiet (first | (go_at_call 46; (with_reducible refine (vinculumref08_Is.calls k _ _ l0 false _ ?side1 ?side2 A2.out).mono ?_); (case side1 => repeat (first | exact HR0.out | (with_reducible refine Kd.C_alloc ?_ _) | (with_reducible refine Kd.C_drewN ?_ _) | (with_reducible refine Kd.C_drew ?_))); (case side2 => exact HC0.out); rintro e w30 ⟨rfl, hb⟩; have n0_ := Aside0.mk (below_step (by repeat (first | (with_reducible first | exact HB.out | apply below_alloc | apply pw_below_drewN | apply below_drew1) | exact HB.out)) hb); clear HB; have HB := n0_; clear n0_; (try clear hb); (try clear hb2); (try clear hk); (try clear hi))); try go_wp2_with (first | (go_at_call 46; (with_reducible refine (vinculumref08_Is.calls k _ _ l0 false _ ?side1 ?side2 A2.out).mono ?_); (case side1 => repeat (first | exact HR0.out | (with_reducible refine Kd.C_alloc ?_ _) | (with_reducible refine Kd.C_drewN ?_ _) | (with_reducible refine Kd.C_drew ?_))); (case side2 => exact HC0.out); rintro e w30 ⟨rfl, hb⟩; have n0_ := Aside0.mk (below_step (by repeat (first | (with_reducible first | exact HB.out | apply below_alloc | apply pw_below_drewN | apply below_drew1) | exact HB.out)) hb); clear HB; have HB := n0_; clear n0_; (try clear hb); (try clear hb2); (try clear hk); (try clear hi))))
    go_ret3
    exact ⟨by first | rfl | (simp [errW_none, errW_some] <;> rfl) | (simp [*, errW_none, errW_some] <;> rfl), by repeat (first | (with_reducible first | exact HB.out | apply below_alloc | apply pw_below_drewN | apply below_drew1) | exact HB.out)⟩
end Go.Proofs.Ytgifenlfklbdgaa.P
