/- A part of the proof of the law ChartDoes: the words, contracts and plain facts that it needs, no more. Each says its own condition. -/
import Derived.Test.YtgifenlfklbdgaaZChartDoesg
import Derived.Test.YtgifenlfklbdgaaZChartDoesh
section
namespace Go.Proofs.Ytgifenlfklbdgaa.P
open Go.RowKit Go.Proofs.YtgifenlfklbdgaaW.PrintWords Go.Proofs.YtgifenlfklbdgaaW.PrintLast Go.Proofs.YtgifenlfklbdgaaW.PrintMore
attribute [local go_sem] max2_int min2_int max_two min_two max_three min_three max_four min_four
set_option linter.unusedVariables false
set_option linter.unusedSimpArgs false
mutual
def vinculumref08_PutTrimmed.j0 : Nat → List (S42) → Int → Int → Bool → Bool → Option (ByteArray × Int)
  | 0, _, _, _, _, _ => none
  | k + 1, x0, x4, x5, x6, x23 => if x23 = true then (some ((⟨#[]⟩ : ByteArray), 7)) else (if x6 = true then (vinculumref08_PutTrimmed.j1 k x0 x4 (wrap64 ((wrap64 (x5 - x4)) + 1))) else (vinculumref08_PutTrimmed.j1 k x0 0 0))
def vinculumref08_PutTrimmed.j1 : Nat → List (S42) → Int → Int → Option (ByteArray × Int)
  | 0, _, _, _ => none
  | k + 1, x0, x4, x7 => if x7 > 32762 then (some ((⟨#[]⟩ : ByteArray), 7)) else ((vinculumref03_Bytes.f k (wrap64 (10 + (wrap64 (2 * x7)))) 2).bind fun t491 => (if 2 + t491.size ≤ 9223372036854775807 then (if ((⟨#[0, 6]⟩ : ByteArray) ++ t491).size + 2 ≤ 9223372036854775807 then ((vinculumref03_Bytes.f k x4 2).bind fun t492 => (if (((⟨#[0, 6]⟩ : ByteArray) ++ t491) ++ (⟨#[0, 0]⟩ : ByteArray)).size + t492.size ≤ 9223372036854775807 then ((vinculumref03_Bytes.f k x7 2).bind fun t493 => (if ((((⟨#[0, 6]⟩ : ByteArray) ++ t491) ++ (⟨#[0, 0]⟩ : ByteArray)) ++ t492).size + t493.size ≤ 9223372036854775807 then (vinculumref08_PutTrimmed.l0 k x0 x4 x7 (((((⟨#[0, 6]⟩ : ByteArray) ++ t491) ++ (⟨#[0, 0]⟩ : ByteArray)) ++ t492) ++ t493) 0) else (none))) else (none))) else (none)) else (none)))
def vinculumref08_PutTrimmed.l0 : Nat → List (S42) → Int → Int → ByteArray → Int → Option (ByteArray × Int)
  | 0, _, _, _, _, _ => none
  | k + 1, x0, x4, x7, x8, x9 => if x9 < x7 then ((vinculumref08_look.f k x0 (wrap64 (x4 + x9))).bind fun t494 => ((vinculumref03_Bytes.f k t494 2).bind fun t495 => (if x8.size + t495.size ≤ 9223372036854775807 then (vinculumref08_PutTrimmed.l0 k x0 x4 x7 (x8 ++ t495) (wrap64 (x9 + 1))) else (none)))) else (some (x8, 0))
end
def vinculumref08_PutTrimmed.f (k : Nat) (l0 : List (S42)) : Option (ByteArray × Int) := (vinculumref08_Is.f k l0).bind fun t487 => (if t487 = true then ((vinculumref08_ends.f k l0).bind fun bt488 => (if bt488.2.2 = true then (vinculumref08_PutTrimmed.j0 k l0 bt488.1 bt488.2.1 bt488.2.2 (decide (bt488.2.1 > 65535))) else (vinculumref08_PutTrimmed.j0 k l0 bt488.1 bt488.2.1 bt488.2.2 false))) else (some ((⟨#[]⟩ : ByteArray), 1)))
set_option maxHeartbeats 8000000 in
set_option maxRecDepth 100000 in
theorem vinculumref08_PutTrimmed.calls (k : Nat) (A0 : Option Addr) (c0 : Nat) (l0 : List (S42)) (r1 : ByteArray) (r2 : Int) (w : World) (hr0 : Kd.C k42 w A0 l0.length l0) (hc0 : l0.length ≤ c0) (h : vinculumref08_PutTrimmed.f k l0 = some (r1, r2)) :
    Calls Try.prog 44 #[.slice A0 l0.length c0] w fun e w' => e = .returned (.tuple #[.string r1, .int .i64 r2]) ∧ Below w.heap.size w w' := by
  have HR0 := Aside0.mk hr0
  have HC0 := Aside0.mk hc0
  clear hr0 hc0
  have HB := Aside0.mk (Below.refl w.heap.size w)
  have H : ((vinculumref08_Is.f k l0).bind fun t487 => (if t487 = true then ((vinculumref08_ends.f k l0).bind fun bt488 => (if bt488.2.2 = true then (vinculumref08_PutTrimmed.j0 k l0 bt488.1 bt488.2.1 bt488.2.2 (decide (bt488.2.1 > 65535))) else (vinculumref08_PutTrimmed.j0 k l0 bt488.1 bt488.2.1 bt488.2.2 false))) else (some ((⟨#[]⟩ : ByteArray), 1)))) = some (r1, r2) := h
  clear h
  replace H := Option.bind_eq_some_iff.mp H
  obtain ⟨t487, A20, H⟩ := H
  replace H : (if t487 = true then ((vinculumref08_ends.f k l0).bind fun bt488 => (if bt488.2.2 = true then (vinculumref08_PutTrimmed.j0 k l0 bt488.1 bt488.2.1 bt488.2.2 (decide (bt488.2.1 > 65535))) else (vinculumref08_PutTrimmed.j0 k l0 bt488.1 bt488.2.1 bt488.2.2 false))) else (some ((⟨#[]⟩ : ByteArray), 1))) = some (r1, r2) := H
  have A2 := Aside0.mk A20
  clear A20
  by_cases c3 : t487 = true
  · subst c3
    have H1 : ((vinculumref08_ends.f k l0).bind fun bt488 => (if bt488.2.2 = true then (vinculumref08_PutTrimmed.j0 k l0 bt488.1 bt488.2.1 bt488.2.2 (decide (bt488.2.1 > 65535))) else (vinculumref08_PutTrimmed.j0 k l0 bt488.1 bt488.2.1 bt488.2.2 false))) = some (r1, r2) := by rw [if_pos rfl] at H; exact H
    clear H
    have H := H1
    clear H1
    replace H := Option.bind_eq_some_iff.mp H
    obtain ⟨⟨t488, t489, t490⟩, A40, H⟩ := H
    replace H : (if t490 = true then (vinculumref08_PutTrimmed.j0 k l0 t488 t489 t490 (decide (t489 > 65535))) else (vinculumref08_PutTrimmed.j0 k l0 t488 t489 t490 false)) = some (r1, r2) := H
    have A4 := Aside0.mk A40
    clear A40
    have HC5 := Aside0.mk H
    clear H
    go_enter Try.func44, Try.ntmps44
    go_upto_region 4 with (first | ((with_reducible refine gate_callee (f := 46) rfl ?_); refine goesL_ (some 11) rfl rfl Try.func46 (by kernel_rfl) rfl #[.slice A0 l0.length c0] rfl (by (try simp only [List.map_toArray, List.map_cons, List.map_nil]); first | done | rfl | (simp only [List.length_drop, List.length_take]; rfl)) ?_; (with_reducible refine (vinculumref08_Is.calls k _ _ l0 true _ ?side1 ?side2 A2.out).mono ?_); (case side1 => repeat (first | exact HR0.out | (with_reducible refine Kd.C_alloc ?_ _) | (with_reducible refine Kd.C_drewN ?_ _) | (with_reducible refine Kd.C_drew ?_))); (case side2 => exact HC0.out); rintro e w6 ⟨rfl, hb⟩; refine ⟨_, rfl, ?_⟩; have n0_ := Aside0.mk (below_step (by repeat (first | (with_reducible first | exact HB.out | apply below_alloc | apply pw_below_drewN | apply below_drew1) | exact HB.out)) hb); clear HB; have HB := n0_; clear n0_; (try clear hb); (try clear hb2); (try clear hk); (try clear hi)) | ((with_reducible refine gate_callee (f := 75) rfl ?_); refine goesL_ (some 15) rfl rfl Try.func75 (by kernel_rfl) rfl #[.slice A0 l0.length c0] rfl (by (try simp only [List.map_toArray, List.map_cons, List.map_nil]); first | done | rfl | (simp only [List.length_drop, List.length_take]; rfl)) ?_; (with_reducible refine (vinculumref08_ends.calls k _ _ l0 t488 t489 t490 _ ?side1 ?side2 A4.out).mono ?_); (case side1 => repeat (first | exact (Kd.C_below HR0.out HB.out) | (with_reducible refine Kd.C_alloc ?_ _) | (with_reducible refine Kd.C_drewN ?_ _) | (with_reducible refine Kd.C_drew ?_))); (case side2 => exact HC0.out); rintro e w' ⟨rfl, ⟨nd, rfl⟩⟩; refine ⟨_, rfl, ?_⟩))
    (try simp only [Act.put, List.setIfInBounds_toArray, List.set_cons_zero, List.set_cons_succ])
    go_cut [23] (fun v23 wc => ∃ (kq : Nat) (x23_4 : Bool), v23 = .bool x23_4 ∧ Aside0 (vinculumref08_PutTrimmed.j0 kq l0 t488 t489 t490 x23_4 = some (r1, r2)) ∧ Aside0 (kq ≤ k) ∧ Aside0 (Below w.heap.size w wc))
    case first =>
      have H := HC5.out
      clear HC5
      by_cases c7 : t490 = true
      · subst c7
        have H1 : (vinculumref08_PutTrimmed.j0 k l0 t488 t489 true (decide (t489 > 65535))) = some (r1, r2) := by rw [if_pos rfl] at H; exact H
        clear H
        have H := H1
        clear H1
        have H' := Aside0.mk H
        clear H
        go_wp2
        go_meet
        case rel => exact ⟨_, (decide (t489 > 65535)), (by first | rfl | (simp; done) | (simp [*]; done)), H', ⟨by first | omega | exact Nat.le_refl _⟩, ⟨by repeat (first | (with_reducible first | exact HB.out | apply below_alloc | apply pw_below_drewN | apply below_drew1) | exact HB.out)⟩⟩
      · replace c7 := Bool.eq_false_iff.mpr c7
        subst c7
        have H1 : (vinculumref08_PutTrimmed.j0 k l0 t488 t489 false false) = some (r1, r2) := by rw [if_neg (show ¬ (false = true) by decide)] at H; exact H
        clear H
        have H := H1
        clear H1
        have H' := Aside0.mk H
        clear H
        go_wp2
        go_meet
        case rel => exact ⟨_, (false), (by first | rfl | (simp; done) | (simp [*]; done)), H', ⟨by first | omega | exact Nat.le_refl _⟩, ⟨by repeat (first | (with_reducible first | exact HB.out | apply below_alloc | apply pw_below_drewN | apply below_drew1) | exact HB.out)⟩⟩
    case rest =>
      clear HC5
      try clear p2
      try clear c3
      try clear c4
      try clear c7
      obtain ⟨kq, x23_4, rfl, HA, HJ4, HB⟩ := hcut
      cases kq with
      | zero => exact absurd HA.out (by simp [vinculumref08_PutTrimmed.j0])
      | succ kj4 =>
        have H := HA.out
        clear HA
        simp only [vinculumref08_PutTrimmed.j0] at H
        by_cases c8 : x23_4 = true
        · subst c8
          have H1 : (some ((⟨#[]⟩ : ByteArray), 7)) = some (r1, r2) := by rw [if_pos rfl] at H; exact H
          clear H
          have H := H1
          clear H1
          simp only [Option.some.injEq, Prod.mk.injEq] at H
          obtain ⟨rfl, rfl⟩ := H
          go_wp2
          go_ret2
          exact ⟨by first | rfl | (simp [errW_none, errW_some] <;> rfl) | (simp [*, errW_none, errW_some] <;> rfl), by repeat (first | (with_reducible first | exact HB.out | apply below_alloc | apply pw_below_drewN | apply below_drew1) | exact HB.out)⟩
        · replace c8 := Bool.eq_false_iff.mpr c8
          subst c8
          have H1 : (if t490 = true then (vinculumref08_PutTrimmed.j1 kj4 l0 t488 (wrap64 ((wrap64 (t489 - t488)) + 1))) else (vinculumref08_PutTrimmed.j1 kj4 l0 0 0)) = some (r1, r2) := by rw [if_neg (show ¬ (false = true) by decide)] at H; exact H
          clear H
          have H := H1
          clear H1
          have HC9 := Aside0.mk H
          clear H
          go_upto_if 24 with (fail)
          go_cut [4, 7] (fun v4 v7 wc => ∃ (kq : Nat) (x4_8 : Int) (x7_8 : Int), v4 = .int .i64 x4_8 ∧ v7 = .int .i64 x7_8 ∧ Aside0 (vinculumref08_PutTrimmed.j1 kq l0 x4_8 x7_8 = some (r1, r2)) ∧ Aside0 (kq ≤ kj4) ∧ Aside0 (Below w.heap.size w wc))
          case first =>
            have H := HC9.out
            clear HC9
            by_cases c10 : t490 = true
            · subst c10
              have H1 : (vinculumref08_PutTrimmed.j1 kj4 l0 t488 (wrap64 ((wrap64 (t489 - t488)) + 1))) = some (r1, r2) := by rw [if_pos rfl] at H; exact H
              clear H
              have H := H1
              clear H1
              have H' := Aside0.mk H
              clear H
              go_wp2
              go_meet
              case rel => exact ⟨_, (t488), (wrap64 ((wrap64 (t489 - t488)) + 1)), (by first | rfl | (simp; done) | (simp [*]; done)), (by first | rfl | (simp; done) | (simp [*]; done)), H', ⟨by have := HJ4.out; first | omega | exact Nat.le_refl _⟩, ⟨by repeat (first | (with_reducible first | exact HB.out | apply below_alloc | apply pw_below_drewN | apply below_drew1) | exact HB.out)⟩⟩
            · replace c10 := Bool.eq_false_iff.mpr c10
              subst c10
              have H1 : (vinculumref08_PutTrimmed.j1 kj4 l0 0 0) = some (r1, r2) := by rw [if_neg (show ¬ (false = true) by decide)] at H; exact H
              clear H
              have H := H1
              clear H1
              have H' := Aside0.mk H
              clear H
              go_wp2
              go_meet
              case rel => exact ⟨_, (0), (0), (by first | rfl | (simp; done) | (simp [*]; done)), (by first | rfl | (simp; done) | (simp [*]; done)), H', ⟨by have := HJ4.out; first | omega | exact Nat.le_refl _⟩, ⟨by repeat (first | (with_reducible first | exact HB.out | apply below_alloc | apply pw_below_drewN | apply below_drew1) | exact HB.out)⟩⟩
          case rest =>
            clear HC9
            try clear c1
            try clear p2
            try clear c3
            try clear c4
            try clear p6
            try clear c7
            try clear c8
            try clear c10
            try clear p2
            obtain ⟨kq, x4_8, x7_8, rfl, rfl, HA, HJ8, HB⟩ := hcut
            cases kq with
            | zero => exact absurd HA.out (by simp [vinculumref08_PutTrimmed.j1])
            | succ kj8 =>
              have H := HA.out
              clear HA
              simp only [vinculumref08_PutTrimmed.j1] at H
              by_cases c11 : x7_8 > 32762
              · rw [if_pos c11] at H
                have c11b0 : decide (32762 < x7_8) = true := decide_eq_true c11
                clear c11
                simp only [Option.some.injEq, Prod.mk.injEq] at H
                obtain ⟨rfl, rfl⟩ := H
                go_wp2
                go_ret2
                exact ⟨by first | rfl | (simp [errW_none, errW_some] <;> rfl) | (simp [*, errW_none, errW_some] <;> rfl), by repeat (first | (with_reducible first | exact HB.out | apply below_alloc | apply pw_below_drewN | apply below_drew1) | exact HB.out)⟩
              · rw [if_neg c11] at H
                have c11b0 : decide (32762 < x7_8) = false := decide_eq_false c11
                clear c11
                replace H := Option.bind_eq_some_iff.mp H
                obtain ⟨t491, A120, H⟩ := H
                replace H : (if 2 + t491.size ≤ 9223372036854775807 then (if ((⟨#[0, 6]⟩ : ByteArray) ++ t491).size + 2 ≤ 9223372036854775807 then ((vinculumref03_Bytes.f kj8 x4_8 2).bind fun t492 => (if (((⟨#[0, 6]⟩ : ByteArray) ++ t491) ++ (⟨#[0, 0]⟩ : ByteArray)).size + t492.size ≤ 9223372036854775807 then ((vinculumref03_Bytes.f kj8 x7_8 2).bind fun t493 => (if ((((⟨#[0, 6]⟩ : ByteArray) ++ t491) ++ (⟨#[0, 0]⟩ : ByteArray)) ++ t492).size + t493.size ≤ 9223372036854775807 then (vinculumref08_PutTrimmed.l0 kj8 l0 x4_8 x7_8 (((((⟨#[0, 6]⟩ : ByteArray) ++ t491) ++ (⟨#[0, 0]⟩ : ByteArray)) ++ t492) ++ t493) 0) else (none))) else (none))) else (none)) else (none)) = some (r1, r2) := H
                have A12 := Aside0.mk A120
                clear A120
                by_cases c13 : 2 + t491.size ≤ 9223372036854775807
                · rw [if_pos c13] at H
                  have c13b0 := eq_true c13
                  have c13b1 : decide (2 + t491.size ≤ 9223372036854775807) = true := decide_eq_true c13
                  try have c13b2 : (9223372036854775807 < 2 + t491.size) = False := eq_false (Nat.not_lt.2 c13)
                  by_cases c14 : ((⟨#[0, 6]⟩ : ByteArray) ++ t491).size + 2 ≤ 9223372036854775807
                  · rw [if_pos c14] at H
                    have c14b0 := eq_true c14
                    have c14b1 : decide (((⟨#[0, 6]⟩ : ByteArray) ++ t491).size + 2 ≤ 9223372036854775807) = true := decide_eq_true c14
                    try have c14b2 : (9223372036854775807 < ((⟨#[0, 6]⟩ : ByteArray) ++ t491).size + 2) = False := eq_false (Nat.not_lt.2 c14)
                    try (have c14b3 := c14b2; simp only [ByteArray.size_append, show ∀ a b : UInt8, (⟨#[a, b]⟩ : ByteArray).size = 2 from fun _ _ => rfl] at c14b3)
                    replace H := Option.bind_eq_some_iff.mp H
                    obtain ⟨t492, A150, H⟩ := H
                    replace H : (if (((⟨#[0, 6]⟩ : ByteArray) ++ t491) ++ (⟨#[0, 0]⟩ : ByteArray)).size + t492.size ≤ 9223372036854775807 then ((vinculumref03_Bytes.f kj8 x7_8 2).bind fun t493 => (if ((((⟨#[0, 6]⟩ : ByteArray) ++ t491) ++ (⟨#[0, 0]⟩ : ByteArray)) ++ t492).size + t493.size ≤ 9223372036854775807 then (vinculumref08_PutTrimmed.l0 kj8 l0 x4_8 x7_8 (((((⟨#[0, 6]⟩ : ByteArray) ++ t491) ++ (⟨#[0, 0]⟩ : ByteArray)) ++ t492) ++ t493) 0) else (none))) else (none)) = some (r1, r2) := H
                    have A15 := Aside0.mk A150
                    clear A150
                    by_cases c16 : (((⟨#[0, 6]⟩ : ByteArray) ++ t491) ++ (⟨#[0, 0]⟩ : ByteArray)).size + t492.size ≤ 9223372036854775807
                    · rw [if_pos c16] at H
                      have c16b0 := eq_true c16
                      have c16b1 : decide ((((⟨#[0, 6]⟩ : ByteArray) ++ t491) ++ (⟨#[0, 0]⟩ : ByteArray)).size + t492.size ≤ 9223372036854775807) = true := decide_eq_true c16
                      try have c16b2 : (9223372036854775807 < (((⟨#[0, 6]⟩ : ByteArray) ++ t491) ++ (⟨#[0, 0]⟩ : ByteArray)).size + t492.size) = False := eq_false (Nat.not_lt.2 c16)
                      try (have c16b3 := c16b2; simp only [ByteArray.size_append, show ∀ a b : UInt8, (⟨#[a, b]⟩ : ByteArray).size = 2 from fun _ _ => rfl] at c16b3)
                      replace H := Option.bind_eq_some_iff.mp H
                      obtain ⟨t493, A170, H⟩ := H
                      replace H : (if ((((⟨#[0, 6]⟩ : ByteArray) ++ t491) ++ (⟨#[0, 0]⟩ : ByteArray)) ++ t492).size + t493.size ≤ 9223372036854775807 then (vinculumref08_PutTrimmed.l0 kj8 l0 x4_8 x7_8 (((((⟨#[0, 6]⟩ : ByteArray) ++ t491) ++ (⟨#[0, 0]⟩ : ByteArray)) ++ t492) ++ t493) 0) else (none)) = some (r1, r2) := H
                      have A17 := Aside0.mk A170
                      clear A170
                      by_cases c18 : ((((⟨#[0, 6]⟩ : ByteArray) ++ t491) ++ (⟨#[0, 0]⟩ : ByteArray)) ++ t492).size + t493.size ≤ 9223372036854775807
                      · rw [if_pos c18] at H
                        have c18b0 := eq_true c18
                        have c18b1 : decide (((((⟨#[0, 6]⟩ : ByteArray) ++ t491) ++ (⟨#[0, 0]⟩ : ByteArray)) ++ t492).size + t493.size ≤ 9223372036854775807) = true := decide_eq_true c18
                        try have c18b2 : (9223372036854775807 < ((((⟨#[0, 6]⟩ : ByteArray) ++ t491) ++ (⟨#[0, 0]⟩ : ByteArray)) ++ t492).size + t493.size) = False := eq_false (Nat.not_lt.2 c18)
                        try (have c18b3 := c18b2; simp only [ByteArray.size_append, show ∀ a b : UInt8, (⟨#[a, b]⟩ : ByteArray).size = 2 from fun _ _ => rfl] at c18b3)
                        have H' := Aside0.mk H
                        clear H
                        go_wp2_with (first | ((with_reducible refine gate_callee (f := 23) rfl ?_); refine goesL_ (some 34) rfl rfl Try.func23 (by kernel_rfl) rfl #[.int .i64 (wrap64 (10 + (wrap64 (2 * x7_8)))), .int .i64 2] rfl (by (try simp only [List.map_toArray, List.map_cons, List.map_nil]); first | done | rfl | (simp only [List.length_drop, List.length_take]; rfl)) ?_; (with_reducible refine (vinculumref03_Bytes.calls kj8 (wrap64 (10 + (wrap64 (2 * x7_8)))) 2 t491 _ A12.out).mono ?_); rintro e w19 ⟨rfl, hb⟩; refine ⟨_, rfl, ?_⟩; have n0_ := Aside0.mk (below_step (by repeat (first | (with_reducible first | exact HB.out | apply below_alloc | apply pw_below_drewN | apply below_drew1) | exact HB.out)) hb); clear HB; have HB := n0_; clear n0_; (try clear hb); (try clear hb2); (try clear hk); (try clear hi)) | ((with_reducible refine gate_callee (f := 23) rfl ?_); refine goesL_ (some 38) rfl rfl Try.func23 (by kernel_rfl) rfl #[.int .i64 x4_8, .int .i64 2] rfl (by (try simp only [List.map_toArray, List.map_cons, List.map_nil]); first | done | rfl | (simp only [List.length_drop, List.length_take]; rfl)) ?_; (with_reducible refine (vinculumref03_Bytes.calls kj8 x4_8 2 t492 _ A15.out).mono ?_); rintro e w20 ⟨rfl, hb⟩; refine ⟨_, rfl, ?_⟩; have n0_ := Aside0.mk (below_step (by repeat (first | (with_reducible first | exact HB.out | apply below_alloc | apply pw_below_drewN | apply below_drew1) | exact HB.out)) hb); clear HB; have HB := n0_; clear n0_; (try clear hb); (try clear hb2); (try clear hk); (try clear hi)) | ((with_reducible refine gate_callee (f := 23) rfl ?_); refine goesL_ (some 41) rfl rfl Try.func23 (by kernel_rfl) rfl #[.int .i64 x7_8, .int .i64 2] rfl (by (try simp only [List.map_toArray, List.map_cons, List.map_nil]); first | done | rfl | (simp only [List.length_drop, List.length_take]; rfl)) ?_; (with_reducible refine (vinculumref03_Bytes.calls kj8 x7_8 2 t493 _ A17.out).mono ?_); rintro e w21 ⟨rfl, hb⟩; refine ⟨_, rfl, ?_⟩; have n0_ := Aside0.mk (below_step (by repeat (first | (with_reducible first | exact HB.out | apply below_alloc | apply pw_below_drewN | apply below_drew1) | exact HB.out)) hb); clear HB; have HB := n0_; clear n0_; (try clear hb); (try clear hb2); (try clear hk); (try clear hi)))
                        go_loopg [8, 9] kj8 (fun kq v8 v9 w' => ∃ (x8_3 : ByteArray) (x9_3 : Int), v8 = .string x8_3 ∧ v9 = .int .i64 x9_3 ∧ Aside0 (vinculumref08_PutTrimmed.l0 kq l0 x4_8 x7_8 x8_3 x9_3 = some (r1, r2)) ∧ Aside0 (kq ≤ kj8) ∧ Aside0 (Below w.heap.size w w'))
                        case atStart => exact ⟨(((((⟨#[0, 6]⟩ : ByteArray) ++ t491) ++ (⟨#[0, 0]⟩ : ByteArray)) ++ t492) ++ t493), (0), (by first | rfl | (simp; done) | (simp [*]; done)), (by first | rfl | (simp; done) | (simp [*]; done)), H', ⟨Nat.le_refl _⟩, ⟨by repeat (first | (with_reducible first | exact HB.out | apply below_alloc | apply pw_below_drewN | apply below_drew1) | exact HB.out)⟩⟩
                        case round =>
                          clear H'
                          try clear c1
                          try clear c2
                          try clear p2
                          try clear c3
                          try clear c4
                          try clear p6
                          try clear c7
                          try clear c8
                          try clear c10
                          try clear c11
                          try clear c11b0
                          try clear c13
                          try clear c13b0
                          try clear c13b1
                          try clear c13b2
                          try clear c14
                          try clear c14b0
                          try clear c14b1
                          try clear c14b2
                          try clear c16
                          try clear c16b0
                          try clear c16b1
                          try clear c16b2
                          try clear c18
                          try clear c18b0
                          try clear c18b1
                          try clear c18b2
                          try clear p2
                          try clear p6
                          obtain ⟨x8_3, x9_3, rfl, rfl, HA, HK3, HB⟩ := hrel
                          cases gk with
                          | zero => exact absurd HA.out (by simp [vinculumref08_PutTrimmed.l0])
                          | succ k3 =>
                            have H := HA.out
                            clear HA
                            simp only [vinculumref08_PutTrimmed.l0] at H
                            by_cases c22 : x9_3 < x7_8
                            · rw [if_pos c22] at H
                              have c22b0 : decide (x9_3 < x7_8) = true := decide_eq_true c22
                              clear c22
                              replace H := Option.bind_eq_some_iff.mp H
                              obtain ⟨t494, A230, H⟩ := H
                              replace H : ((vinculumref03_Bytes.f k3 t494 2).bind fun t495 => (if x8_3.size + t495.size ≤ 9223372036854775807 then (vinculumref08_PutTrimmed.l0 k3 l0 x4_8 x7_8 (x8_3 ++ t495) (wrap64 (x9_3 + 1))) else (none))) = some (r1, r2) := H
                              have A23 := Aside0.mk A230
                              clear A230
                              replace H := Option.bind_eq_some_iff.mp H
                              obtain ⟨t495, A240, H⟩ := H
                              replace H : (if x8_3.size + t495.size ≤ 9223372036854775807 then (vinculumref08_PutTrimmed.l0 k3 l0 x4_8 x7_8 (x8_3 ++ t495) (wrap64 (x9_3 + 1))) else (none)) = some (r1, r2) := H
                              have A24 := Aside0.mk A240
                              clear A240
                              by_cases c25 : x8_3.size + t495.size ≤ 9223372036854775807
                              · rw [if_pos c25] at H
                                have c25b0 := eq_true c25
                                have c25b1 : decide (x8_3.size + t495.size ≤ 9223372036854775807) = true := decide_eq_true c25
                                try have c25b2 : (9223372036854775807 < x8_3.size + t495.size) = False := eq_false (Nat.not_lt.2 c25)
                                have H' := Aside0.mk H
                                clear H
                                go_wp2_with (first | ((with_reducible refine gate_callee (f := 80) rfl ?_); refine goesL_ (some 53) rfl rfl Try.func80 (by kernel_rfl) rfl #[.slice A0 l0.length c0, .int .i64 (wrap64 (x4_8 + x9_3))] rfl (by (try simp only [List.map_toArray, List.map_cons, List.map_nil]); first | done | rfl | (simp only [List.length_drop, List.length_take]; rfl)) ?_; (with_reducible refine (vinculumref08_look.calls k3 _ _ l0 (wrap64 (x4_8 + x9_3)) t494 _ ?side1 ?side2 A23.out).mono ?_); (case side1 => repeat (first | exact (Kd.C_below HR0.out HB.out) | (with_reducible refine Kd.C_alloc ?_ _) | (with_reducible refine Kd.C_drewN ?_ _) | (with_reducible refine Kd.C_drew ?_))); (case side2 => exact HC0.out); rintro e w' ⟨rfl, ⟨nd, rfl⟩⟩; refine ⟨_, rfl, ?_⟩) | ((with_reducible refine gate_callee (f := 23) rfl ?_); refine goesL_ (some 54) rfl rfl Try.func23 (by kernel_rfl) rfl #[.int .i64 t494, .int .i64 2] rfl (by (try simp only [List.map_toArray, List.map_cons, List.map_nil]); first | done | rfl | (simp only [List.length_drop, List.length_take]; rfl)) ?_; (with_reducible refine (vinculumref03_Bytes.calls k3 t494 2 t495 _ A24.out).mono ?_); rintro e w26 ⟨rfl, hb⟩; refine ⟨_, rfl, ?_⟩; have n0_ := Aside0.mk (below_step (by repeat (first | (with_reducible first | exact HB.out | apply below_alloc | apply pw_below_drewN | apply below_drew1) | exact HB.out)) hb); clear HB; have HB := n0_; clear n0_; (try clear hb); (try clear hb2); (try clear hk); (try clear hi)))
                                go_roundg k3
                                case measure => have := HJ4.out; have := HJ8.out; have := HK3.out; omega
                                case rel => exact ⟨(x8_3 ++ t495), (wrap64 (x9_3 + 1)), (by first | rfl | (simp; done) | (simp [*]; done)), (by first | rfl | (simp; done) | (simp [*]; done)), H', ⟨by have := HJ4.out; have := HJ8.out; have := HK3.out; omega⟩, ⟨by repeat (first | (with_reducible first | exact HB.out | apply below_alloc | apply pw_below_drewN | apply below_drew1) | exact HB.out)⟩⟩
                              · rw [if_neg c25] at H
                                exact absurd H (by simp)
                            · rw [if_neg c22] at H
                              have c22b0 : decide (x9_3 < x7_8) = false := decide_eq_false c22
                              clear c22
                              simp only [Option.some.injEq, Prod.mk.injEq] at H
                              obtain ⟨rfl, rfl⟩ := H
                              go_wp2
                              go_ret2
                              exact ⟨by first | rfl | (simp [errW_none, errW_some] <;> rfl) | (simp [*, errW_none, errW_some] <;> rfl), by repeat (first | (with_reducible first | exact HB.out | apply below_alloc | apply pw_below_drewN | apply below_drew1) | exact HB.out)⟩
                      · rw [if_neg c18] at H
                        exact absurd H (by simp)
                    · rw [if_neg c16] at H
                      exact absurd H (by simp)
                  · rw [if_neg c14] at H
                    exact absurd H (by simp)
                · rw [if_neg c13] at H
                  exact absurd H (by simp)
  · replace c3 := Bool.eq_false_iff.mpr c3
    subst c3
    have H1 : (some ((⟨#[]⟩ : ByteArray), 1)) = some (r1, r2) := by rw [if_neg (show ¬ (false = true) by decide)] at H; exact H
    clear H
    have H := H1
    clear H1
    simp only [Option.some.injEq, Prod.mk.injEq] at H
    obtain ⟨rfl, rfl⟩ := H
    go_enter Try.func44, Try.ntmps44
    go_wp2_with (first | ((with_reducible refine gate_callee (f := 46) rfl ?_); refine goesL_ (some 11) rfl rfl Try.func46 (by kernel_rfl) rfl #[.slice A0 l0.length c0] rfl (by (try simp only [List.map_toArray, List.map_cons, List.map_nil]); first | done | rfl | (simp only [List.length_drop, List.length_take]; rfl)) ?_; (with_reducible refine (vinculumref08_Is.calls k _ _ l0 false _ ?side1 ?side2 A2.out).mono ?_); (case side1 => repeat (first | exact HR0.out | (with_reducible refine Kd.C_alloc ?_ _) | (with_reducible refine Kd.C_drewN ?_ _) | (with_reducible refine Kd.C_drew ?_))); (case side2 => exact HC0.out); rintro e w27 ⟨rfl, hb⟩; refine ⟨_, rfl, ?_⟩; have n0_ := Aside0.mk (below_step (by repeat (first | (with_reducible first | exact HB.out | apply below_alloc | apply pw_below_drewN | apply below_drew1) | exact HB.out)) hb); clear HB; have HB := n0_; clear n0_; (try clear hb); (try clear hb2); (try clear hk); (try clear hi)))
    go_ret2
    exact ⟨by first | rfl | (simp [errW_none, errW_some] <;> rfl) | (simp [*, errW_none, errW_some] <;> rfl), by repeat (first | (with_reducible first | exact HB.out | apply below_alloc | apply pw_below_drewN | apply below_drew1) | exact HB.out)⟩
def vinculumref08_Look.f (k : Nat) (l0 : List (S42)) (a1 : Int) : Option (Int) := (vinculumref08_Is.f k l0).bind fun t527 => (if t527 = true then ((vinculumref08_look.f k l0 a1).bind fun t528 => (some t528)) else (some 0))
set_option maxHeartbeats 8000000 in
set_option maxRecDepth 100000 in
theorem vinculumref08_Look.calls (k : Nat) (A0 : Option Addr) (c0 : Nat) (l0 : List (S42)) (a1 : Int) (r : Int) (w : World) (hr0 : Kd.C k42 w A0 l0.length l0) (hc0 : l0.length ≤ c0) (h : vinculumref08_Look.f k l0 a1 = some r) :
    Calls Try.prog 47 #[.slice A0 l0.length c0, .int .i64 a1] w fun e w' => e = .returned (.int .i64 r) ∧ Below w.heap.size w w' := by
  have HR0 := Aside0.mk hr0
  have HC0 := Aside0.mk hc0
  clear hr0 hc0
  have HB := Aside0.mk (Below.refl w.heap.size w)
  have H : ((vinculumref08_Is.f k l0).bind fun t527 => (if t527 = true then ((vinculumref08_look.f k l0 a1).bind fun t528 => (some t528)) else (some 0))) = some r := h
  clear h
  replace H := Option.bind_eq_some_iff.mp H
  obtain ⟨t527, A30, H⟩ := H
  replace H : (if t527 = true then ((vinculumref08_look.f k l0 a1).bind fun t528 => (some t528)) else (some 0)) = some r := H
  have A3 := Aside0.mk A30
  clear A30
  by_cases c4 : t527 = true
  · subst c4
    have H1 : ((vinculumref08_look.f k l0 a1).bind fun t528 => (some t528)) = some r := by rw [if_pos rfl] at H; exact H
    clear H
    have H := H1
    clear H1
    replace H := Option.bind_eq_some_iff.mp H
    obtain ⟨t528, A50, H⟩ := H
    replace H : (some t528) = some r := H
    have A5 := Aside0.mk A50
    clear A50
    obtain rfl := Option.some.inj H
    go_enter Try.func47, Try.ntmps47
    go_wp2_with (first | ((with_reducible refine gate_callee (f := 46) rfl ?_); refine goesL_ (some 6) rfl rfl Try.func46 (by kernel_rfl) rfl #[.slice A0 l0.length c0] rfl (by (try simp only [List.map_toArray, List.map_cons, List.map_nil]); first | done | rfl | (simp only [List.length_drop, List.length_take]; rfl)) ?_; (with_reducible refine (vinculumref08_Is.calls k _ _ l0 true _ ?side1 ?side2 A3.out).mono ?_); (case side1 => repeat (first | exact HR0.out | (with_reducible refine Kd.C_alloc ?_ _) | (with_reducible refine Kd.C_drewN ?_ _) | (with_reducible refine Kd.C_drew ?_))); (case side2 => exact HC0.out); rintro e w6 ⟨rfl, hb⟩; refine ⟨_, rfl, ?_⟩; have n0_ := Aside0.mk (below_step (by repeat (first | (with_reducible first | exact HB.out | apply below_alloc | apply pw_below_drewN | apply below_drew1) | exact HB.out)) hb); clear HB; have HB := n0_; clear n0_; (try clear hb); (try clear hb2); (try clear hk); (try clear hi)) | ((with_reducible refine gate_callee (f := 80) rfl ?_); refine goesL_ (some 10) rfl rfl Try.func80 (by kernel_rfl) rfl #[.slice A0 l0.length c0, .int .i64 a1] rfl (by (try simp only [List.map_toArray, List.map_cons, List.map_nil]); first | done | rfl | (simp only [List.length_drop, List.length_take]; rfl)) ?_; (with_reducible refine (vinculumref08_look.calls k _ _ l0 a1 t528 _ ?side1 ?side2 A5.out).mono ?_); (case side1 => repeat (first | exact (Kd.C_below HR0.out HB.out) | (with_reducible refine Kd.C_alloc ?_ _) | (with_reducible refine Kd.C_drewN ?_ _) | (with_reducible refine Kd.C_drew ?_))); (case side2 => exact HC0.out); rintro e w' ⟨rfl, ⟨nd, rfl⟩⟩; refine ⟨_, rfl, ?_⟩))
    go_ret
    exact ⟨by first | rfl | (simp [errW_none, errW_some] <;> rfl) | (simp [*, errW_none, errW_some] <;> rfl), by repeat (first | (with_reducible first | exact HB.out | apply below_alloc | apply pw_below_drewN | apply below_drew1) | exact HB.out)⟩
  · replace c4 := Bool.eq_false_iff.mpr c4
    subst c4
    have H1 : (some 0) = some r := by rw [if_neg (show ¬ (false = true) by decide)] at H; exact H
    clear H
    have H := H1
    clear H1
    obtain rfl := Option.some.inj H
    go_enter Try.func47, Try.ntmps47
    go_wp2_with (first | ((with_reducible refine gate_callee (f := 46) rfl ?_); refine goesL_ (some 6) rfl rfl Try.func46 (by kernel_rfl) rfl #[.slice A0 l0.length c0] rfl (by (try simp only [List.map_toArray, List.map_cons, List.map_nil]); first | done | rfl | (simp only [List.length_drop, List.length_take]; rfl)) ?_; (with_reducible refine (vinculumref08_Is.calls k _ _ l0 false _ ?side1 ?side2 A3.out).mono ?_); (case side1 => repeat (first | exact HR0.out | (with_reducible refine Kd.C_alloc ?_ _) | (with_reducible refine Kd.C_drewN ?_ _) | (with_reducible refine Kd.C_drew ?_))); (case side2 => exact HC0.out); rintro e w7 ⟨rfl, hb⟩; refine ⟨_, rfl, ?_⟩; have n0_ := Aside0.mk (below_step (by repeat (first | (with_reducible first | exact HB.out | apply below_alloc | apply pw_below_drewN | apply below_drew1) | exact HB.out)) hb); clear HB; have HB := n0_; clear n0_; (try clear hb); (try clear hb2); (try clear hk); (try clear hi)))
    go_ret
    exact ⟨by first | rfl | (simp [errW_none, errW_some] <;> rfl) | (simp [*, errW_none, errW_some] <;> rfl), by repeat (first | (with_reducible first | exact HB.out | apply below_alloc | apply pw_below_drewN | apply below_drew1) | exact HB.out)⟩
end Go.Proofs.Ytgifenlfklbdgaa.P
end
section
namespace Go.Proofs.Ytgifenlfklbdgaa.P
open Go.RowKit Go.Proofs.YtgifenlfklbdgaaW.PrintWords Go.Proofs.YtgifenlfklbdgaaW.PrintLast Go.Proofs.YtgifenlfklbdgaaW.PrintMore
attribute [local go_sem] max2_int min2_int max_two min_two max_three min_three max_four min_four
set_option linter.unusedVariables false
set_option linter.unusedSimpArgs false
def chart_spans.l0 : Nat → Int → List (S42) → List Int → Int → Int → Option ((List (S42)))
  | 0, _, _, _, _, _ => none
  | k + 1, x0, x5, x8, x9, x10 => if x10 < x9 then (if 0 ≤ x10 then (if x10 < (x8.length : Int) then (if (rd x8 x10) = 0 then (chart_spans.l0 k x0 x5 x8 x9 (wrap64 (x10 + 1))) else (if x5.length < 4398046511104 then (chart_spans.l0 k x0 (x5 ++ [(⟨wrap64 (x0 + x10), wrap64 (x0 + x10), rd x8 x10, 1⟩ : S42)]) x8 x9 (wrap64 (x10 + 1))) else (none))) else (none)) else (none)) else (some x5)
def chart_spans.f (k : Nat) (a0 : Int) (l1 : List Int) : Option ((List (S42))) := chart_spans.l0 k a0 ([] : List (S42)) l1 (l1.length : Int) 0
set_option maxHeartbeats 8000000 in
set_option maxRecDepth 100000 in
theorem chart_spans.calls (k : Nat) (a0 : Int) (A1 : Option Addr) (c1 : Nat) (l1 : List Int) (r : List (S42)) (w : World) (hr1 : Kd.C (Kd.int .i64) w A1 l1.length l1) (hc1 : l1.length ≤ c1) (h : chart_spans.f k a0 l1 = some r) :
    Calls Try.prog 117 #[.int .i64 a0, .slice A1 l1.length c1] w fun e w' => ∃ v0_ : Value, e = .returned (v0_) ∧ Kd.R k42 42 w' w.heap.size (fun _ => True) v0_ r ∧ Below w.heap.size w w' := by
  have hu42 := Try.underlying42
  have HR1 := Aside0.mk hr1
  have HC1 := Aside0.mk hc1
  clear hr1 hc1
  have HB := Aside0.mk (Below.refl w.heap.size w)
  have H : (chart_spans.l0 k a0 ([] : List (S42)) l1 (l1.length : Int) 0) = some r := h
  clear h
  have H' := Aside0.mk H
  clear H
  go_enter Try.func117, Try.ntmps117
  go_wp2
  go_loopg [5, 10] k (fun kq v5 v10 w' => ∃ (x5_1 : List (S42)) (x10_1 : Int), v10 = .int .i64 x10_1 ∧ Aside0 (chart_spans.l0 kq a0 x5_1 l1 (l1.length : Int) x10_1 = some r) ∧ Aside0 (kq ≤ k) ∧ Aside0 (Kd.R k42 42 w' w.heap.size (fun _ => True) v5 x5_1) ∧ Aside0 (Below w.heap.size w w'))
  case atStart => exact ⟨(([] : List (S42))), (0), (by first | rfl | (simp; done) | (simp [*]; done)), H', ⟨Nat.le_refl _⟩, ⟨by first | exact Kd.R_nil _ _ _ _ _ | exact Kd.N_nil _ _ _ _ _ | exact Kd.V_nil _ _ _ _ _ | exact Kd.Q_nil _ _ _ _ _ | exact Kd.S_nil _ _ _ _ _⟩, ⟨by repeat (first | (with_reducible first | exact HB.out | apply below_alloc | apply pw_below_drewN | apply below_drew1) | exact HB.out)⟩⟩
  case round =>
    clear H'
    try clear c1
    try clear p2
    obtain ⟨x5_1, x10_1, rfl, HA, HK1, HO_5, HB⟩ := hrel
    cases gk with
    | zero => exact absurd HA.out (by simp [chart_spans.l0])
    | succ k1 =>
      have H := HA.out
      clear HA
      simp only [chart_spans.l0] at H
      by_cases c3 : x10_1 < (l1.length : Int)
      · rw [if_pos c3] at H
        have c3b0 : decide (x10_1 < (l1.length : Int)) = true := decide_eq_true c3
        clear c3
        by_cases c4 : 0 ≤ x10_1
        · rw [if_pos c4] at H
          have c4b0 : decide (0 ≤ x10_1) = true := decide_eq_true c4
          clear c4
          by_cases c5 : x10_1 < (l1.length : Int)
          · rw [if_pos c5] at H
            have c5b0 : decide (x10_1 < (l1.length : Int)) = true := decide_eq_true c5
            clear c5
            by_cases c6 : (rd l1 x10_1) = 0
            · rw [if_pos c6] at H
              have c6b0 : ((rd l1 x10_1) == 0) = true := beq_iff_eq.mpr c6
              have c6b1 : ((rd l1 x10_1) != 0) = false := bne_eq_false_iff_eq.mpr c6
              clear c6
              have H' := Aside0.mk H
              clear H
              have p130 : 0 ≤ (x10_1 : Int) := of_decide_eq_true (by first | (with_reducible assumption) | assumption)
              have q130 : x10_1 < (l1.length : Int) := of_decide_eq_true (by first | (with_reducible assumption) | assumption)
              obtain ⟨ad130, e130, hx130_0⟩ := Kd.at_int HR1.out x10_1 p130 q130
              cases e130
              replace hx130_0 := (HB.out.cell (World.block_lt_of_cell? w _ hx130_0)).trans hx130_0
              replace p130 := eq_true p130
              replace q130 := eq_true q130
              go_wp2
              go_roundg k1
              case measure => have := HK1.out; omega
              case rel => exact ⟨(x5_1), (wrap64 (x10_1 + 1)), (by first | rfl | (simp; done) | (simp [*]; done)), H', ⟨by have := HK1.out; omega⟩, ⟨by (with_reducible repeat (first | apply Kd.R_alloc | apply Kd.R_drewN | apply Kd.R_drew)); exact HO_5.out⟩, ⟨by repeat (first | (with_reducible first | exact HB.out | apply below_alloc | apply pw_below_drewN | apply below_drew1) | exact HB.out)⟩⟩
            · rw [if_neg c6] at H
              have c6b0 : ((rd l1 x10_1) == 0) = false := beq_eq_false_iff_ne.mpr c6
              have c6b1 : ((rd l1 x10_1) != 0) = true := bne_iff_ne.mpr c6
              by_cases c7 : x5_1.length < 4398046511104
              · rw [if_pos c7] at H
                have LMc7 := Aside0.mk c7
                clear c7
                obtain ⟨y131, hy131⟩ : ∃ y_ : List (S42), y_ = (x5_1 ++ [(⟨wrap64 (a0 + x10_1), wrap64 (a0 + x10_1), rd l1 x10_1, 1⟩ : S42)]) := ⟨_, rfl⟩
                replace H : (chart_spans.l0 k1 a0 y131 l1 (l1.length : Int) (wrap64 (x10_1 + 1))) = some r := by first | (rw [hy131]; with_reducible exact H) | (have H2_ := (Option.bind_some _ _).symm.trans H; rw [hy131]; with_reducible exact H2_) | (have H2_ := (Option.bind_some _ _).symm.trans H; with_reducible exact H2_) | with_reducible exact H | (rw [hy131]; exact H) | exact H
                have Ny131 := Aside0.mk hy131
                clear hy131
                have H' := Aside0.mk H
                clear H
                have p130 : 0 ≤ (x10_1 : Int) := of_decide_eq_true (by first | (with_reducible assumption) | assumption)
                have q130 : x10_1 < (l1.length : Int) := of_decide_eq_true (by first | (with_reducible assumption) | assumption)
                obtain ⟨ad130, e130, hx130_0⟩ := Kd.at_int HR1.out x10_1 p130 q130
                cases e130
                replace hx130_0 := (HB.out.cell (World.block_lt_of_cell? w _ hx130_0)).trans hx130_0
                replace p130 := eq_true p130
                replace q130 := eq_true q130
                go_wp2_with (first | ((with_reducible refine gate_builtin (b := .append) (xs := #[.tmp 17, .tmp 26]) rfl ?_); at_builtin; refine Kd.R_append k42 (w0 := w) w.heap.size rfl (.tmp 17) (.tmp 26) 22 42 (.agg #[(.int .i64 0), (.int .i64 0), (.int .i64 0), (.int .i64 0)]) 32 rfl Try.underlying22 info42 rfl (by decide) (by omega) u5 x5_1 (⟨wrap64 (a0 + x10_1), wrap64 (a0 + x10_1), rd l1 x10_1, 1⟩ : S42) [.int .i64 (wrap64 (a0 + x10_1)), .int .i64 (wrap64 (a0 + x10_1)), .int .i64 (rd l1 x10_1), .int .i64 1] (fun _ => True) (fun _ => False) rfl rfl ?aP (fun _ hk => hk.elim) ?aF ?aO ?aB ?aS ?aL ?_; (case aP => exact k42_mkM _ _ _ (⟨wrap64 (a0 + x10_1), wrap64 (a0 + x10_1), rd l1 x10_1, 1⟩ : S42)); (case aB => exact (by repeat (first | (with_reducible first | exact HB.out | apply below_alloc | apply pw_below_drewN | apply below_drew1) | exact HB.out))); (case aF => exact (fun _ _ => trivial)); (case aO => exact (by (with_reducible repeat (first | apply Kd.R_alloc | apply Kd.R_drewN | apply Kd.R_drew)); exact HO_5.out)); (case aS => exact (below_size (by repeat (first | (with_reducible first | exact HB.out | apply below_alloc | apply pw_below_drewN | apply below_drew1) | exact HB.out)))); (case aL => have := LMc7.out; omega); intro v132 w8 ho hb hg hat; rw [← Ny131.out] at ho; have n0_ := Aside0.mk (hb); have n1_ := Aside0.mk (ho); clear HB; clear HO_5; have HB := n0_; have HO133 := n1_; clear n0_ n1_; clear ho hb hg hat))
                go_roundg k1
                case measure => have := HK1.out; omega
                case rel => exact ⟨(y131), (wrap64 (x10_1 + 1)), (by first | rfl | (simp; done) | (simp [*]; done)), H', ⟨by have := HK1.out; omega⟩, ⟨by (with_reducible repeat (first | apply Kd.R_alloc | apply Kd.R_drewN | apply Kd.R_drew)); exact HO133.out⟩, ⟨by repeat (first | (with_reducible first | exact HB.out | apply below_alloc | apply pw_below_drewN | apply below_drew1) | exact HB.out)⟩⟩
              · rw [if_neg c7] at H
                exact absurd H (by simp)
          · rw [if_neg c5] at H
            exact absurd H (by simp)
        · rw [if_neg c4] at H
          exact absurd H (by simp)
      · rw [if_neg c3] at H
        have c3b0 : decide (x10_1 < (l1.length : Int)) = false := decide_eq_false c3
        clear c3
        obtain rfl := Option.some.inj H
        go_wp2
        go_ret
        exact ⟨_, by first | rfl | (simp [errW_none, errW_some] <;> rfl) | (simp [*, errW_none, errW_some] <;> rfl), by (with_reducible repeat (first | apply Kd.R_alloc | apply Kd.R_drewN | apply Kd.R_drew)); exact HO_5.out, by repeat (first | (with_reducible first | exact HB.out | apply below_alloc | apply pw_below_drewN | apply below_drew1) | exact HB.out)⟩
end Go.Proofs.Ytgifenlfklbdgaa.P
end
