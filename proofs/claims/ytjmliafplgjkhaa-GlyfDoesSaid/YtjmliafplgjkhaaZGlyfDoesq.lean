/- A part of the proof of the law GlyfDoes: the words, contracts and plain facts that it needs, no more. Each says its own condition. -/
import Derived.Test.YtjmliafplgjkhaaZGlyfDoesi
import Derived.Test.YtjmliafplgjkhaaZGlyfDoesp
namespace Go.Proofs.Ytjmliafplgjkhaa.P
open Go.RowKit Go.Proofs.YtjmliafplgjkhaaW.PrintWords Go.Proofs.YtjmliafplgjkhaaW.PrintLast Go.Proofs.YtjmliafplgjkhaaW.PrintMore
attribute [local go_sem] max2_int min2_int max_two min_two max_three min_three max_four min_four
set_option linter.unusedVariables false
set_option linter.unusedSimpArgs false
attribute [local go_sem high] eqA30
mutual
def vinculumref07_Put.j0 : Nat → List (S30) → Bool → Bool → Option (ByteArray × ByteArray × Int)
  | 0, _, _, _ => none
  | k + 1, x0, x1, x20 => if x20 = true then (some ((⟨#[]⟩ : ByteArray), (⟨#[]⟩ : ByteArray), 1)) else (vinculumref07_Put.l0 k x0 x1 0 0)
def vinculumref07_Put.l0 : Nat → List (S30) → Bool → Int → Int → Option (ByteArray × ByteArray × Int)
  | 0, _, _, _, _ => none
  | k + 1, x0, x1, x7, x8 => if x8 < (x0.length : Int) then (if 0 ≤ x8 then ((vinculumref07_Is.f k ((rd_T30 x0 x8).f0) ((rd_T30 x0 x8).f1) ((rd_T30 x0 x8).f2) ((rd_T30 x0 x8).f3) ((rd_T30 x0 x8).f4)).bind fun t166 => (if t166 = true then (if (rd_T30 x0 x8).f0 = true then (vinculumref07_Put.l0 k x0 x1 (wrap64 (x7 + 1)) (wrap64 (x8 + 1))) else (vinculumref07_Put.l0 k x0 x1 x7 (wrap64 (x8 + 1)))) else (some ((⟨#[]⟩ : ByteArray), (⟨#[]⟩ : ByteArray), 1)))) else (none)) else (if x1 = true then (vinculumref07_Put.j2 k x0 x1 false) else (vinculumref07_Put.j2 k x0 x1 (decide (x7 > 10922))))
def vinculumref07_Put.j2 : Nat → List (S30) → Bool → Bool → Option (ByteArray × ByteArray × Int)
  | 0, _, _, _ => none
  | k + 1, x0, x1, x45 => if x45 = true then (some ((⟨#[]⟩ : ByteArray), (⟨#[]⟩ : ByteArray), 7)) else (vinculumref07_Put.l1 k x0 x1 (⟨#[]⟩ : ByteArray) (⟨#[]⟩ : ByteArray) 0)
def vinculumref07_Put.l1 : Nat → List (S30) → Bool → ByteArray → ByteArray → Int → Option (ByteArray × ByteArray × Int)
  | 0, _, _, _, _, _ => none
  | k + 1, x0, x1, x9, x10, x11 => if x11 ≤ (x0.length : Int) then (if x1 = true then ((vinculumref03_Bytes.f k (x10.size : Int) 4).bind fun t168 => (if x9.size + t168.size ≤ 9223372036854775807 then (vinculumref07_Put.j4 k x0 x1 (x9 ++ t168) x10 x11) else (none))) else ((vinculumref03_Bytes.f k (wrap64 ((x10.size : Int) / 2)) 2).bind fun t169 => (if x9.size + t169.size ≤ 9223372036854775807 then (vinculumref07_Put.j4 k x0 x1 (x9 ++ t169) x10 x11) else (none)))) else (some (x9, x10, 0))
def vinculumref07_Put.j4 : Nat → List (S30) → Bool → ByteArray → ByteArray → Int → Option (ByteArray × ByteArray × Int)
  | 0, _, _, _, _, _ => none
  | k + 1, x0, x1, x9, x10, x11 => if x11 < (x0.length : Int) then (if 0 ≤ x11 then (vinculumref07_Put.j5 k x0 x1 x9 x10 x11 ((rd_T30 x0 x11).f0)) else (none)) else (vinculumref07_Put.j5 k x0 x1 x9 x10 x11 false)
def vinculumref07_Put.j5 : Nat → List (S30) → Bool → ByteArray → ByteArray → Int → Bool → Option (ByteArray × ByteArray × Int)
  | 0, _, _, _, _, _, _ => none
  | k + 1, x0, x1, x9, x10, x11, x74 => if x74 = true then (if 0 ≤ x11 then (if x11 < (x0.length : Int) then (if x10.size + 2 ≤ 9223372036854775807 then ((vinculumref03_Bytes.f k ((rd_T30 x0 x11).f1) 2).bind fun t173 => (if (x10 ++ (⟨#[0, 0]⟩ : ByteArray)).size + t173.size ≤ 9223372036854775807 then ((vinculumref03_Bytes.f k ((rd_T30 x0 x11).f2) 2).bind fun t174 => (if ((x10 ++ (⟨#[0, 0]⟩ : ByteArray)) ++ t173).size + t174.size ≤ 9223372036854775807 then ((vinculumref03_Bytes.f k ((rd_T30 x0 x11).f3) 2).bind fun t175 => (if (((x10 ++ (⟨#[0, 0]⟩ : ByteArray)) ++ t173) ++ t174).size + t175.size ≤ 9223372036854775807 then ((vinculumref03_Bytes.f k ((rd_T30 x0 x11).f4) 2).bind fun t176 => (if ((((x10 ++ (⟨#[0, 0]⟩ : ByteArray)) ++ t173) ++ t174) ++ t175).size + t176.size ≤ 9223372036854775807 then (if (((((x10 ++ (⟨#[0, 0]⟩ : ByteArray)) ++ t173) ++ t174) ++ t175) ++ t176).size + 2 ≤ 9223372036854775807 then (vinculumref07_Put.l1 k x0 x1 x9 ((((((x10 ++ (⟨#[0, 0]⟩ : ByteArray)) ++ t173) ++ t174) ++ t175) ++ t176) ++ (⟨#[0, 0]⟩ : ByteArray)) (wrap64 (x11 + 1))) else (none)) else (none))) else (none))) else (none))) else (none))) else (none)) else (none)) else (none)) else (vinculumref07_Put.l1 k x0 x1 x9 x10 (wrap64 (x11 + 1)))
end
def vinculumref07_Put.f (k : Nat) (l0 : List (S30)) (a1 : Bool) : Option (ByteArray × ByteArray × Int) := if (l0.length : Int) < 1 then (vinculumref07_Put.j0 k l0 a1 true) else (vinculumref07_Put.j0 k l0 a1 (decide ((l0.length : Int) > 65535)))
def vinculumref07_Put.T23 : Bool × List (List Nat × List Nat) := (true, [([], []), ([0], [0]), ([], []), ([2], [2]), ([3], [3]), ([1, 4], [1, 4]), ([], []), ([6], [6]), ([7, 4], [7]), ([5, 8], [5, 8]), ([], []), ([10], [10]), ([11, 8], [11]), ([9, 12], [9, 12]), ([], []), ([14], [14]), ([15, 12], [15]), ([13, 16], [13, 16]), ([17], [17]), ([18, 16, 0, 1, 2, 3, 4, 5, 6, 7, 8, 9, 10, 11, 12, 13, 14, 15, 16, 17, 18], [0, 18])])
def vinculumref07_Put.B23 : List Nat := [0, 1, 0, 4, 12, 31, 0, 64, 220, 511, 0, 1024, 3548, 8191, 0, 16384, 56796, 131071, 262143, 524287]
theorem vinculumref07_Put.tab23 : rtab .any (opsOf Try.f10 23) = vinculumref07_Put.T23 := by kernel_rfl
theorem vinculumref07_Put.bits23 : waitsOk vinculumref07_Put.T23.2 vinculumref07_Put.B23 = true := by kernel_rfl
set_option maxHeartbeats 8000000 in
set_option maxRecDepth 100000 in
theorem vinculumref07_Put.calls (k : Nat) (A0 : Option Addr) (c0 : Nat) (l0 : List (S30)) (a1 : Bool) (r1 : ByteArray) (r2 : ByteArray) (r3 : Int) (w : World) (hr0 : Kd.C k30 w A0 l0.length l0) (hc0 : l0.length ≤ c0) (h : vinculumref07_Put.f k l0 a1 = some (r1, r2, r3)) :
    Calls Try.prog 10 #[.slice A0 l0.length c0, .bool a1] w fun e w' => e = .returned (.tuple #[.string r1, .string r2, .int .i64 r3]) ∧ Below w.heap.size w w' := by
  have hu30 := Try.underlying30
  have HR0 := Aside0.mk hr0
  have HC0 := Aside0.mk hc0
  clear hr0 hc0
  have HB := Aside0.mk (Below.refl w.heap.size w)
  have H : (if (l0.length : Int) < 1 then (vinculumref07_Put.j0 k l0 a1 true) else (vinculumref07_Put.j0 k l0 a1 (decide ((l0.length : Int) > 65535)))) = some (r1, r2, r3) := h
  clear h
  have HC3 := Aside0.mk H
  clear H
  go_enter Try.func10, Try.ntmps10
  go_upto_region 1 with (fail)
  go_cut [20] (fun v20 wc => ∃ (kq : Nat) (x20_2 : Bool), v20 = .bool x20_2 ∧ Aside0 (vinculumref07_Put.j0 kq l0 a1 x20_2 = some (r1, r2, r3)) ∧ Aside0 (kq ≤ k) ∧ Aside0 (Below w.heap.size w wc))
  case first =>
    have H := HC3.out
    clear HC3
    by_cases c4 : (l0.length : Int) < 1
    · rw [if_pos c4] at H
      have c4b0 : decide ((l0.length : Int) < 1) = true := decide_eq_true c4
      have c4b1 : decide (l0.length < 1) = true := decide_eq_true (by omega)
      clear c4
      (first | rw [c4b0] | (simp only [i64_w, i32_w]; rw [c4b0]) | skip)
      have H' := Aside0.mk H
      clear H
      go_wp2
      go_meet
      case rel => exact ⟨_, (true), (by first | rfl | (simp; done) | (simp [*]; done)), H', ⟨by first | omega | exact Nat.le_refl _⟩, ⟨by repeat (first | (with_reducible first | exact HB.out | apply below_alloc | apply pw_below_drewN | apply below_drew1) | exact HB.out)⟩⟩
    · rw [if_neg c4] at H
      have c4b0 : decide ((l0.length : Int) < 1) = false := decide_eq_false c4
      have c4b1 : decide (l0.length < 1) = false := decide_eq_false (by omega)
      clear c4
      (first | rw [c4b0] | (simp only [i64_w, i32_w]; rw [c4b0]) | skip)
      have H' := Aside0.mk H
      clear H
      go_wp2
      go_meet
      case rel => exact ⟨_, (decide ((l0.length : Int) > 65535)), (by first | rfl | (simp; done) | (simp [*]; done)), H', ⟨by first | omega | exact Nat.le_refl _⟩, ⟨by repeat (first | (with_reducible first | exact HB.out | apply below_alloc | apply pw_below_drewN | apply below_drew1) | exact HB.out)⟩⟩
  case rest =>
    clear HC3
    try clear c1
    try clear p2
    try clear c4
    try clear c4b0
    try clear c4b1
    obtain ⟨kq, x20_2, rfl, HA, HJ2, HB⟩ := hcut
    cases kq with
    | zero => exact absurd HA.out (by simp [vinculumref07_Put.j0])
    | succ kj2 =>
      have H := HA.out
      clear HA
      simp only [vinculumref07_Put.j0] at H
      by_cases c5 : x20_2 = true
      · subst c5
        have H1 : (some ((⟨#[]⟩ : ByteArray), (⟨#[]⟩ : ByteArray), 1)) = some (r1, r2, r3) := by rw [if_pos rfl] at H; exact H
        clear H
        have H := H1
        clear H1
        simp only [Option.some.injEq, Prod.mk.injEq] at H
        obtain ⟨rfl, rfl, rfl⟩ := H
        go_wp2
        go_ret3
        exact ⟨by first | rfl | (simp [errW_none, errW_some] <;> rfl) | (simp [*, errW_none, errW_some] <;> rfl), by repeat (first | (with_reducible first | exact HB.out | apply below_alloc | apply pw_below_drewN | apply below_drew1) | exact HB.out)⟩
      · replace c5 := Bool.eq_false_iff.mpr c5
        subst c5
        have H1 : (vinculumref07_Put.l0 kj2 l0 a1 0 0) = some (r1, r2, r3) := by rw [if_neg (show ¬ (false = true) by decide)] at H; exact H
        clear H
        have H := H1
        clear H1
        have H' := Aside0.mk H
        clear H
        go_wp2
        go_loopg [7, 8] kj2 (fun kq v7 v8 w' => ∃ (x7_2 : Int) (x8_2 : Int), v7 = .int .i64 x7_2 ∧ v8 = .int .i64 x8_2 ∧ Aside0 (vinculumref07_Put.l0 kq l0 a1 x7_2 x8_2 = some (r1, r2, r3)) ∧ Aside0 (kq ≤ kj2) ∧ Aside0 (Below w.heap.size w w'))
        case atStart => exact ⟨(0), (0), (by first | rfl | (simp; done) | (simp [*]; done)), (by first | rfl | (simp; done) | (simp [*]; done)), H', ⟨Nat.le_refl _⟩, ⟨by repeat (first | (with_reducible first | exact HB.out | apply below_alloc | apply pw_below_drewN | apply below_drew1) | exact HB.out)⟩⟩
        case round =>
          clear H'
          try clear c1
          try clear p2
          try clear c4
          try clear c4b0
          try clear c4b1
          try clear c5
          try clear p2
          obtain ⟨x7_2, x8_2, rfl, rfl, HA, HK2, HB⟩ := hrel
          cases gk with
          | zero => exact absurd HA.out (by simp [vinculumref07_Put.l0])
          | succ k2 =>
            have H := HA.out
            clear HA
            simp only [vinculumref07_Put.l0] at H
            by_cases c6 : x8_2 < (l0.length : Int)
            · rw [if_pos c6] at H
              have c6b0 : decide (x8_2 < (l0.length : Int)) = true := decide_eq_true c6
              clear c6
              by_cases c7 : 0 ≤ x8_2
              · rw [if_pos c7] at H
                have c7b0 : decide (0 ≤ x8_2) = true := decide_eq_true c7
                clear c7
                replace H := Option.bind_eq_some_iff.mp H
                obtain ⟨t166, A80, H⟩ := H
                replace H : (if t166 = true then (if (rd_T30 l0 x8_2).f0 = true then (vinculumref07_Put.l0 k2 l0 a1 (wrap64 (x7_2 + 1)) (wrap64 (x8_2 + 1))) else (vinculumref07_Put.l0 k2 l0 a1 x7_2 (wrap64 (x8_2 + 1)))) else (some ((⟨#[]⟩ : ByteArray), (⟨#[]⟩ : ByteArray), 1))) = some (r1, r2, r3) := H
                have A8 := Aside0.mk A80
                clear A80
                by_cases c9 : t166 = true
                · subst c9
                  have H1 : (if (rd_T30 l0 x8_2).f0 = true then (vinculumref07_Put.l0 k2 l0 a1 (wrap64 (x7_2 + 1)) (wrap64 (x8_2 + 1))) else (vinculumref07_Put.l0 k2 l0 a1 x7_2 (wrap64 (x8_2 + 1)))) = some (r1, r2, r3) := by rw [if_pos rfl] at H; exact H
                  clear H
                  have H := H1
                  clear H1
                  obtain ⟨bq10, hbq10⟩ : ∃ b_ : Bool, b_ = ((rd_T30 l0 x8_2).f0) := ⟨_, rfl⟩
                  replace H : (if bq10 = true then (vinculumref07_Put.l0 k2 l0 a1 (wrap64 (x7_2 + 1)) (wrap64 (x8_2 + 1))) else (vinculumref07_Put.l0 k2 l0 a1 x7_2 (wrap64 (x8_2 + 1)))) = some (r1, r2, r3) := by rw [← hbq10] at H; exact H
                  have Nbq10 := Aside0.mk hbq10
                  clear hbq10
                  by_cases c11 : bq10 = true
                  · subst c11
                    have H1 : (vinculumref07_Put.l0 k2 l0 a1 (wrap64 (x7_2 + 1)) (wrap64 (x8_2 + 1))) = some (r1, r2, r3) := by rw [if_pos rfl] at H; exact H
                    clear H
                    have H := H1
                    clear H1
                    have H' := Aside0.mk H
                    clear H
                    have p165 : 0 ≤ (x8_2 : Int) := of_decide_eq_true (by first | (with_reducible assumption) | assumption)
                    have q165 : x8_2 < (l0.length : Int) := of_decide_eq_true (by first | (with_reducible assumption) | assumption)
                    obtain ⟨ad165, e165, hx165_0, hx165_1, hx165_2, hx165_3, hx165_4⟩ := at_T30 HR0.out x8_2 p165 q165
                    (try rw [← Nbq10.out] at hx165_0)
                    try (have Az_ := A8.out; rw [← Nbq10.out] at Az_; clear A8; have A8 := Aside0.mk Az_; clear Az_)
                    cases e165
                    replace hx165_0 := (HB.out.cell (World.block_lt_of_cell? w _ hx165_0)).trans hx165_0
                    replace hx165_1 := (HB.out.cell (World.block_lt_of_cell? w _ hx165_1)).trans hx165_1
                    replace hx165_2 := (HB.out.cell (World.block_lt_of_cell? w _ hx165_2)).trans hx165_2
                    replace hx165_3 := (HB.out.cell (World.block_lt_of_cell? w _ hx165_3)).trans hx165_3
                    replace hx165_4 := (HB.out.cell (World.block_lt_of_cell? w _ hx165_4)).trans hx165_4
                    replace p165 := eq_true p165
                    replace q165 := eq_true q165
                    go_wp2_with (first | ((with_reducible refine gate_callee (f := 12) rfl ?_); refine goesL_ (some 31) rfl rfl Try.func12 (by kernel_rfl) rfl #[.agg #[.bool true, .int .i64 ((rd_T30 l0 x8_2).f1), .int .i64 ((rd_T30 l0 x8_2).f2), .int .i64 ((rd_T30 l0 x8_2).f3), .int .i64 ((rd_T30 l0 x8_2).f4)]] rfl (by (try simp only [List.map_toArray, List.map_cons, List.map_nil]); first | done | rfl | (simp only [List.length_drop, List.length_take]; rfl)) ?_; (with_reducible refine (vinculumref07_Is.calls k2 true ((rd_T30 l0 x8_2).f1) ((rd_T30 l0 x8_2).f2) ((rd_T30 l0 x8_2).f3) ((rd_T30 l0 x8_2).f4) true _ A8.out).mono ?_); rintro e w12 ⟨rfl, hb⟩; refine ⟨_, rfl, ?_⟩; have n0_ := Aside0.mk (below_step (by repeat (first | (with_reducible first | exact HB.out | apply below_alloc | apply pw_below_drewN | apply below_drew1) | exact HB.out)) hb); clear HB; have HB := n0_; clear n0_; (try clear hb); (try clear hb2); (try clear hk); (try clear hi); have p167 : 0 ≤ (x8_2 : Int) := of_decide_eq_true (by first | (with_reducible assumption) | assumption); have q167 : x8_2 < (l0.length : Int) := of_decide_eq_true (by first | (with_reducible assumption) | assumption); obtain ⟨ad167, e167, hx167_0, hx167_1, hx167_2, hx167_3, hx167_4⟩ := at_T30 HR0.out x8_2 p167 q167; (try rw [← Nbq10.out] at hx167_0); obtain rfl : ad165 = ad167 := (by injection e167); replace hx167_0 := (HB.out.cell (World.block_lt_of_cell? w _ hx167_0)).trans hx167_0; replace hx167_1 := (HB.out.cell (World.block_lt_of_cell? w _ hx167_1)).trans hx167_1; replace hx167_2 := (HB.out.cell (World.block_lt_of_cell? w _ hx167_2)).trans hx167_2; replace hx167_3 := (HB.out.cell (World.block_lt_of_cell? w _ hx167_3)).trans hx167_3; replace hx167_4 := (HB.out.cell (World.block_lt_of_cell? w _ hx167_4)).trans hx167_4; replace p167 := eq_true p167; replace q167 := eq_true q167))
                    go_roundg k2
                    case measure => have := HJ2.out; have := HK2.out; omega
                    case rel => exact ⟨(wrap64 (x7_2 + 1)), (wrap64 (x8_2 + 1)), (by first | rfl | (simp; done) | (simp [*]; done)), (by first | rfl | (simp; done) | (simp [*]; done)), H', ⟨by have := HJ2.out; have := HK2.out; omega⟩, ⟨by repeat (first | (with_reducible first | exact HB.out | apply below_alloc | apply pw_below_drewN | apply below_drew1) | exact HB.out)⟩⟩
                  · replace c11 := Bool.eq_false_iff.mpr c11
                    subst c11
                    have H1 : (vinculumref07_Put.l0 k2 l0 a1 x7_2 (wrap64 (x8_2 + 1))) = some (r1, r2, r3) := by rw [if_neg (show ¬ (false = true) by decide)] at H; exact H
                    clear H
                    have H := H1
                    clear H1
                    have H' := Aside0.mk H
                    clear H
                    have p165 : 0 ≤ (x8_2 : Int) := of_decide_eq_true (by first | (with_reducible assumption) | assumption)
                    have q165 : x8_2 < (l0.length : Int) := of_decide_eq_true (by first | (with_reducible assumption) | assumption)
                    obtain ⟨ad165, e165, hx165_0, hx165_1, hx165_2, hx165_3, hx165_4⟩ := at_T30 HR0.out x8_2 p165 q165
                    (try rw [← Nbq10.out] at hx165_0)
                    try (have Az_ := A8.out; rw [← Nbq10.out] at Az_; clear A8; have A8 := Aside0.mk Az_; clear Az_)
                    cases e165
                    replace hx165_0 := (HB.out.cell (World.block_lt_of_cell? w _ hx165_0)).trans hx165_0
                    replace hx165_1 := (HB.out.cell (World.block_lt_of_cell? w _ hx165_1)).trans hx165_1
                    replace hx165_2 := (HB.out.cell (World.block_lt_of_cell? w _ hx165_2)).trans hx165_2
                    replace hx165_3 := (HB.out.cell (World.block_lt_of_cell? w _ hx165_3)).trans hx165_3
                    replace hx165_4 := (HB.out.cell (World.block_lt_of_cell? w _ hx165_4)).trans hx165_4
                    replace p165 := eq_true p165
                    replace q165 := eq_true q165
                    go_wp2_with (first | ((with_reducible refine gate_callee (f := 12) rfl ?_); refine goesL_ (some 31) rfl rfl Try.func12 (by kernel_rfl) rfl #[.agg #[.bool false, .int .i64 ((rd_T30 l0 x8_2).f1), .int .i64 ((rd_T30 l0 x8_2).f2), .int .i64 ((rd_T30 l0 x8_2).f3), .int .i64 ((rd_T30 l0 x8_2).f4)]] rfl (by (try simp only [List.map_toArray, List.map_cons, List.map_nil]); first | done | rfl | (simp only [List.length_drop, List.length_take]; rfl)) ?_; (with_reducible refine (vinculumref07_Is.calls k2 false ((rd_T30 l0 x8_2).f1) ((rd_T30 l0 x8_2).f2) ((rd_T30 l0 x8_2).f3) ((rd_T30 l0 x8_2).f4) true _ A8.out).mono ?_); rintro e w13 ⟨rfl, hb⟩; refine ⟨_, rfl, ?_⟩; have n0_ := Aside0.mk (below_step (by repeat (first | (with_reducible first | exact HB.out | apply below_alloc | apply pw_below_drewN | apply below_drew1) | exact HB.out)) hb); clear HB; have HB := n0_; clear n0_; (try clear hb); (try clear hb2); (try clear hk); (try clear hi); have p167 : 0 ≤ (x8_2 : Int) := of_decide_eq_true (by first | (with_reducible assumption) | assumption); have q167 : x8_2 < (l0.length : Int) := of_decide_eq_true (by first | (with_reducible assumption) | assumption); obtain ⟨ad167, e167, hx167_0, hx167_1, hx167_2, hx167_3, hx167_4⟩ := at_T30 HR0.out x8_2 p167 q167; (try rw [← Nbq10.out] at hx167_0); obtain rfl : ad165 = ad167 := (by injection e167); replace hx167_0 := (HB.out.cell (World.block_lt_of_cell? w _ hx167_0)).trans hx167_0; replace hx167_1 := (HB.out.cell (World.block_lt_of_cell? w _ hx167_1)).trans hx167_1; replace hx167_2 := (HB.out.cell (World.block_lt_of_cell? w _ hx167_2)).trans hx167_2; replace hx167_3 := (HB.out.cell (World.block_lt_of_cell? w _ hx167_3)).trans hx167_3; replace hx167_4 := (HB.out.cell (World.block_lt_of_cell? w _ hx167_4)).trans hx167_4; replace p167 := eq_true p167; replace q167 := eq_true q167))
                    go_roundg k2
                    case measure => have := HJ2.out; have := HK2.out; omega
                    case rel => exact ⟨(x7_2), (wrap64 (x8_2 + 1)), (by first | rfl | (simp; done) | (simp [*]; done)), (by first | rfl | (simp; done) | (simp [*]; done)), H', ⟨by have := HJ2.out; have := HK2.out; omega⟩, ⟨by repeat (first | (with_reducible first | exact HB.out | apply below_alloc | apply pw_below_drewN | apply below_drew1) | exact HB.out)⟩⟩
                · replace c9 := Bool.eq_false_iff.mpr c9
                  subst c9
                  have H1 : (some ((⟨#[]⟩ : ByteArray), (⟨#[]⟩ : ByteArray), 1)) = some (r1, r2, r3) := by rw [if_neg (show ¬ (false = true) by decide)] at H; exact H
                  clear H
                  have H := H1
                  clear H1
                  simp only [Option.some.injEq, Prod.mk.injEq] at H
                  obtain ⟨rfl, rfl, rfl⟩ := H
                  have p165 : 0 ≤ (x8_2 : Int) := of_decide_eq_true (by first | (with_reducible assumption) | assumption)
                  have q165 : x8_2 < (l0.length : Int) := of_decide_eq_true (by first | (with_reducible assumption) | assumption)
                  obtain ⟨ad165, e165, hx165_0, hx165_1, hx165_2, hx165_3, hx165_4⟩ := at_T30 HR0.out x8_2 p165 q165
                  cases e165
                  replace hx165_0 := (HB.out.cell (World.block_lt_of_cell? w _ hx165_0)).trans hx165_0
                  replace hx165_1 := (HB.out.cell (World.block_lt_of_cell? w _ hx165_1)).trans hx165_1
                  replace hx165_2 := (HB.out.cell (World.block_lt_of_cell? w _ hx165_2)).trans hx165_2
                  replace hx165_3 := (HB.out.cell (World.block_lt_of_cell? w _ hx165_3)).trans hx165_3
                  replace hx165_4 := (HB.out.cell (World.block_lt_of_cell? w _ hx165_4)).trans hx165_4
                  replace p165 := eq_true p165
                  replace q165 := eq_true q165
                  go_wp2_with (first | ((with_reducible refine gate_callee (f := 12) rfl ?_); refine goesL_ (some 31) rfl rfl Try.func12 (by kernel_rfl) rfl #[.agg #[.bool ((rd_T30 l0 x8_2).f0), .int .i64 ((rd_T30 l0 x8_2).f1), .int .i64 ((rd_T30 l0 x8_2).f2), .int .i64 ((rd_T30 l0 x8_2).f3), .int .i64 ((rd_T30 l0 x8_2).f4)]] rfl (by (try simp only [List.map_toArray, List.map_cons, List.map_nil]); first | done | rfl | (simp only [List.length_drop, List.length_take]; rfl)) ?_; (with_reducible refine (vinculumref07_Is.calls k2 ((rd_T30 l0 x8_2).f0) ((rd_T30 l0 x8_2).f1) ((rd_T30 l0 x8_2).f2) ((rd_T30 l0 x8_2).f3) ((rd_T30 l0 x8_2).f4) false _ A8.out).mono ?_); rintro e w14 ⟨rfl, hb⟩; refine ⟨_, rfl, ?_⟩; have n0_ := Aside0.mk (below_step (by repeat (first | (with_reducible first | exact HB.out | apply below_alloc | apply pw_below_drewN | apply below_drew1) | exact HB.out)) hb); clear HB; have HB := n0_; clear n0_; (try clear hb); (try clear hb2); (try clear hk); (try clear hi)))
                  go_ret3
                  exact ⟨by first | rfl | (simp [errW_none, errW_some] <;> rfl) | (simp [*, errW_none, errW_some] <;> rfl), by repeat (first | (with_reducible first | exact HB.out | apply below_alloc | apply pw_below_drewN | apply below_drew1) | exact HB.out)⟩
              · rw [if_neg c7] at H
                exact absurd H (by simp)
            · rw [if_neg c6] at H
              have c6b0 : decide (x8_2 < (l0.length : Int)) = false := decide_eq_false c6
              clear c6
              have HC15 := Aside0.mk H
              clear H
              go_upto_region 11 with (fail)
              go_cut [45] (fun v45 wc => ∃ (kq : Nat) (x45_14 : Bool), v45 = .bool x45_14 ∧ Aside0 (vinculumref07_Put.j2 kq l0 a1 x45_14 = some (r1, r2, r3)) ∧ Aside0 (kq ≤ k2) ∧ Aside0 (Below w.heap.size w wc))
              case first =>
                have H := HC15.out
                clear HC15
                by_cases c16 : a1 = true
                · subst c16
                  have H1 : (vinculumref07_Put.j2 k2 l0 true false) = some (r1, r2, r3) := by rw [if_pos rfl] at H; exact H
                  clear H
                  have H := H1
                  clear H1
                  have H' := Aside0.mk H
                  clear H
                  go_wp2
                  go_meet
                  case rel => exact ⟨_, (false), (by first | rfl | (simp; done) | (simp [*]; done)), H', ⟨by have := HJ2.out; have := HK2.out; first | omega | exact Nat.le_refl _⟩, ⟨by repeat (first | (with_reducible first | exact HB.out | apply below_alloc | apply pw_below_drewN | apply below_drew1) | exact HB.out)⟩⟩
                · replace c16 := Bool.eq_false_iff.mpr c16
                  subst c16
                  have H1 : (vinculumref07_Put.j2 k2 l0 false (decide (x7_2 > 10922))) = some (r1, r2, r3) := by rw [if_neg (show ¬ (false = true) by decide)] at H; exact H
                  clear H
                  have H := H1
                  clear H1
                  have H' := Aside0.mk H
                  clear H
                  go_wp2
                  go_meet
                  case rel => exact ⟨_, (decide (x7_2 > 10922)), (by first | rfl | (simp; done) | (simp [*]; done)), H', ⟨by have := HJ2.out; have := HK2.out; first | omega | exact Nat.le_refl _⟩, ⟨by repeat (first | (with_reducible first | exact HB.out | apply below_alloc | apply pw_below_drewN | apply below_drew1) | exact HB.out)⟩⟩
              case rest =>
                clear HC15
                try clear c1
                try clear p1
                try clear q1
                try clear hx1
                try clear p2
                try clear c4
                try clear c4b0
                try clear c4b1
                try clear c5
                try clear c6
                try clear c6b0
                try clear p6
                try clear c7
                try clear c7b0
                try clear c9
                try clear c10
                try clear q10
                try clear c11
                try clear c12
                try clear c16
                try clear p16
                try clear q16
                try clear hx16
                try clear hx165_0
                try clear hx165_1
                try clear hx165_2
                try clear hx165_3
                try clear hx165_4
                try clear hx167_0
                try clear hx167_1
                try clear hx167_2
                try clear hx167_3
                try clear hx167_4
                try clear p165
                try clear p167
                try clear p2
                try clear q165
                try clear q167
                obtain ⟨kq, x45_14, rfl, HA, HJ14, HB⟩ := hcut
                cases kq with
                | zero => exact absurd HA.out (by simp [vinculumref07_Put.j2])
                | succ kj14 =>
                  have H := HA.out
                  clear HA
                  simp only [vinculumref07_Put.j2] at H
                  by_cases c17 : x45_14 = true
                  · subst c17
                    have H1 : (some ((⟨#[]⟩ : ByteArray), (⟨#[]⟩ : ByteArray), 7)) = some (r1, r2, r3) := by rw [if_pos rfl] at H; exact H
                    clear H
                    have H := H1
                    clear H1
                    simp only [Option.some.injEq, Prod.mk.injEq] at H
                    obtain ⟨rfl, rfl, rfl⟩ := H
                    go_wp2
                    go_ret3
                    exact ⟨by first | rfl | (simp [errW_none, errW_some] <;> rfl) | (simp [*, errW_none, errW_some] <;> rfl), by repeat (first | (with_reducible first | exact HB.out | apply below_alloc | apply pw_below_drewN | apply below_drew1) | exact HB.out)⟩
                  · replace c17 := Bool.eq_false_iff.mpr c17
                    subst c17
                    have H1 : (vinculumref07_Put.l1 kj14 l0 a1 (⟨#[]⟩ : ByteArray) (⟨#[]⟩ : ByteArray) 0) = some (r1, r2, r3) := by rw [if_neg (show ¬ (false = true) by decide)] at H; exact H
                    clear H
                    have H := H1
                    clear H1
                    have H' := Aside0.mk H
                    clear H
                    go_wp2
                    go_loopg [9, 10, 11] kj14 (fun kq v9 v10 v11 w' => ∃ (x9_4 : ByteArray) (x10_4 : ByteArray) (x11_4 : Int), v9 = .string x9_4 ∧ v10 = .string x10_4 ∧ v11 = .int .i64 x11_4 ∧ Aside0 (vinculumref07_Put.l1 kq l0 a1 x9_4 x10_4 x11_4 = some (r1, r2, r3)) ∧ Aside0 (kq ≤ kj14) ∧ Aside0 (Below w.heap.size w w'))
                    case atStart => exact ⟨((⟨#[]⟩ : ByteArray)), ((⟨#[]⟩ : ByteArray)), (0), (by first | rfl | (simp; done) | (simp [*]; done)), (by first | rfl | (simp; done) | (simp [*]; done)), (by first | rfl | (simp; done) | (simp [*]; done)), H', ⟨Nat.le_refl _⟩, ⟨by repeat (first | (with_reducible first | exact HB.out | apply below_alloc | apply pw_below_drewN | apply below_drew1) | exact HB.out)⟩⟩
                    case round =>
                      clear H'
                      try clear c1
                      try clear p1
                      try clear q1
                      try clear hx1
                      try clear p2
                      try clear c4
                      try clear c4b0
                      try clear c4b1
                      try clear c5
                      try clear c6
                      try clear c6b0
                      try clear p6
                      try clear c7
                      try clear c7b0
                      try clear c9
                      try clear c10
                      try clear q10
                      try clear c11
                      try clear c12
                      try clear c16
                      try clear p16
                      try clear q16
                      try clear hx16
                      try clear c17
                      try clear hx165_0
                      try clear hx165_1
                      try clear hx165_2
                      try clear hx165_3
                      try clear hx165_4
                      try clear hx167_0
                      try clear hx167_1
                      try clear hx167_2
                      try clear hx167_3
                      try clear hx167_4
                      try clear p1
                      try clear p16
                      try clear p165
                      try clear p167
                      try clear p2
                      try clear p6
                      try clear q1
                      try clear q10
                      try clear q16
                      try clear q165
                      try clear q167
                      obtain ⟨x9_4, x10_4, x11_4, rfl, rfl, rfl, HA, HK4, HB⟩ := hrel
                      cases gk with
                      | zero => exact absurd HA.out (by simp [vinculumref07_Put.l1])
                      | succ k4 =>
                        have H := HA.out
                        clear HA
                        simp only [vinculumref07_Put.l1] at H
                        by_cases c18 : x11_4 ≤ (l0.length : Int)
                        · rw [if_pos c18] at H
                          have c18b0 : decide (x11_4 ≤ (l0.length : Int)) = true := decide_eq_true c18
                          clear c18
                          have HC19 := Aside0.mk H
                          clear H
                          go_upto_if 52 with (fail)
                          go_cut [9] (fun v9 wc => ∃ (kq : Nat) (x9_18 : ByteArray), v9 = .string x9_18 ∧ Aside0 (vinculumref07_Put.j4 kq l0 a1 x9_18 x10_4 x11_4 = some (r1, r2, r3)) ∧ Aside0 (kq ≤ k4) ∧ Aside0 (Below w.heap.size w wc))
                          case first =>
                            have H := HC19.out
                            clear HC19
                            by_cases c20 : a1 = true
                            · subst c20
                              have H1 : ((vinculumref03_Bytes.f k4 (x10_4.size : Int) 4).bind fun t168 => (if x9_4.size + t168.size ≤ 9223372036854775807 then (vinculumref07_Put.j4 k4 l0 true (x9_4 ++ t168) x10_4 x11_4) else (none))) = some (r1, r2, r3) := by rw [if_pos rfl] at H; exact H
                              clear H
                              have H := H1
                              clear H1
                              replace H := Option.bind_eq_some_iff.mp H
                              obtain ⟨t168, A210, H⟩ := H
                              replace H : (if x9_4.size + t168.size ≤ 9223372036854775807 then (vinculumref07_Put.j4 k4 l0 true (x9_4 ++ t168) x10_4 x11_4) else (none)) = some (r1, r2, r3) := H
                              have A21 := Aside0.mk A210
                              clear A210
                              by_cases c22 : x9_4.size + t168.size ≤ 9223372036854775807
                              · rw [if_pos c22] at H
                                have c22b0 := eq_true c22
                                have c22b1 : decide (x9_4.size + t168.size ≤ 9223372036854775807) = true := decide_eq_true c22
                                try have c22b2 : (9223372036854775807 < x9_4.size + t168.size) = False := eq_false (Nat.not_lt.2 c22)
                                have H' := Aside0.mk H
                                clear H
                                go_wp2_with (first | ((with_reducible refine gate_callee (f := 29) rfl ?_); refine goesL_ (some 56) rfl rfl Try.func29 (by kernel_rfl) rfl #[.int .i64 (x10_4.size : Int), .int .i64 4] rfl (by (try simp only [List.map_toArray, List.map_cons, List.map_nil]); first | done | rfl | (simp only [List.length_drop, List.length_take]; rfl)) ?_; (with_reducible refine (vinculumref03_Bytes.calls k4 (x10_4.size : Int) 4 t168 _ A21.out).mono ?_); rintro e w23 ⟨rfl, hb⟩; refine ⟨_, rfl, ?_⟩; have n0_ := Aside0.mk (below_step (by repeat (first | (with_reducible first | exact HB.out | apply below_alloc | apply pw_below_drewN | apply below_drew1) | exact HB.out)) hb); clear HB; have HB := n0_; clear n0_; (try clear hb); (try clear hb2); (try clear hk); (try clear hi)))
                                go_meet
                                case rel => exact ⟨_, (x9_4 ++ t168), (by first | rfl | (simp; done) | (simp [*]; done)), H', ⟨by have := HJ2.out; have := HK2.out; have := HJ14.out; have := HK4.out; first | omega | exact Nat.le_refl _⟩, ⟨by repeat (first | (with_reducible first | exact HB.out | apply below_alloc | apply pw_below_drewN | apply below_drew1) | exact HB.out)⟩⟩
                              · rw [if_neg c22] at H
                                exact absurd H (by simp)
                            · replace c20 := Bool.eq_false_iff.mpr c20
                              subst c20
                              have H1 : ((vinculumref03_Bytes.f k4 (wrap64 ((x10_4.size : Int) / 2)) 2).bind fun t169 => (if x9_4.size + t169.size ≤ 9223372036854775807 then (vinculumref07_Put.j4 k4 l0 false (x9_4 ++ t169) x10_4 x11_4) else (none))) = some (r1, r2, r3) := by rw [if_neg (show ¬ (false = true) by decide)] at H; exact H
                              clear H
                              have H := H1
                              clear H1
                              replace H := Option.bind_eq_some_iff.mp H
                              obtain ⟨t169, A240, H⟩ := H
                              replace H : (if x9_4.size + t169.size ≤ 9223372036854775807 then (vinculumref07_Put.j4 k4 l0 false (x9_4 ++ t169) x10_4 x11_4) else (none)) = some (r1, r2, r3) := H
                              have A24 := Aside0.mk A240
                              clear A240
                              by_cases c25 : x9_4.size + t169.size ≤ 9223372036854775807
                              · rw [if_pos c25] at H
                                have c25b0 := eq_true c25
                                have c25b1 : decide (x9_4.size + t169.size ≤ 9223372036854775807) = true := decide_eq_true c25
                                try have c25b2 : (9223372036854775807 < x9_4.size + t169.size) = False := eq_false (Nat.not_lt.2 c25)
                                have H' := Aside0.mk H
                                clear H
                                go_wp2_with (first | ((with_reducible refine gate_callee (f := 29) rfl ?_); refine goesL_ (some 62) rfl rfl Try.func29 (by kernel_rfl) rfl #[.int .i64 (wrap64 ((x10_4.size : Int) / 2)), .int .i64 2] rfl (by (try simp only [List.map_toArray, List.map_cons, List.map_nil]); first | done | rfl | (simp only [List.length_drop, List.length_take]; rfl)) ?_; (with_reducible refine (vinculumref03_Bytes.calls k4 (wrap64 ((x10_4.size : Int) / 2)) 2 t169 _ A24.out).mono ?_); rintro e w26 ⟨rfl, hb⟩; refine ⟨_, rfl, ?_⟩; have n0_ := Aside0.mk (below_step (by repeat (first | (with_reducible first | exact HB.out | apply below_alloc | apply pw_below_drewN | apply below_drew1) | exact HB.out)) hb); clear HB; have HB := n0_; clear n0_; (try clear hb); (try clear hb2); (try clear hk); (try clear hi)))
                                go_meet
                                case rel => exact ⟨_, (x9_4 ++ t169), (by first | rfl | (simp; done) | (simp [*]; done)), H', ⟨by have := HJ2.out; have := HK2.out; have := HJ14.out; have := HK4.out; first | omega | exact Nat.le_refl _⟩, ⟨by repeat (first | (with_reducible first | exact HB.out | apply below_alloc | apply pw_below_drewN | apply below_drew1) | exact HB.out)⟩⟩
                              · rw [if_neg c25] at H
                                exact absurd H (by simp)
                          case rest =>
                            clear HC19
                            try clear c1
                            try clear p1
                            try clear q1
                            try clear hx1
                            try clear c2
                            try clear p2
                            try clear c4
                            try clear c4b0
                            try clear c4b1
                            try clear c5
                            try clear c6
                            try clear c6b0
                            try clear p6
                            try clear c7
                            try clear c7b0
                            try clear c9
                            try clear c10
                            try clear q10
                            try clear c11
                            try clear c12
                            try clear c16
                            try clear p16
                            try clear q16
                            try clear hx16
                            try clear c17
                            try clear c18
                            try clear c18b0
                            try clear c20
                            try clear c22
                            try clear c22b0
                            try clear c22b1
                            try clear c22b2
                            try clear c25
                            try clear c25b0
                            try clear c25b1
                            try clear c25b2
                            try clear hx165_0
                            try clear hx165_1
                            try clear hx165_2
                            try clear hx165_3
                            try clear hx165_4
                            try clear hx167_0
                            try clear hx167_1
                            try clear hx167_2
                            try clear hx167_3
                            try clear hx167_4
                            try clear p1
                            try clear p16
                            try clear p165
                            try clear p167
                            try clear p2
                            try clear p6
                            try clear q1
                            try clear q10
                            try clear q16
                            try clear q165
                            try clear q167
                            obtain ⟨kq, x9_18, rfl, HA, HJ18, HB⟩ := hcut
                            cases kq with
                            | zero => exact absurd HA.out (by simp [vinculumref07_Put.j4])
                            | succ kj18 =>
                              have H := HA.out
                              clear HA
                              simp only [vinculumref07_Put.j4] at H
                              have HC27 := Aside0.mk H
                              clear H
                              go_upto_region 21 with (fail)
                              go_cut [74] (fun v74 wc => ∃ (kq : Nat) (x74_26 : Bool), v74 = .bool x74_26 ∧ Aside0 (vinculumref07_Put.j5 kq l0 a1 x9_18 x10_4 x11_4 x74_26 = some (r1, r2, r3)) ∧ Aside0 (kq ≤ kj18) ∧ Aside0 (Below w.heap.size w wc))
                              case first =>
                                have H := HC27.out
                                clear HC27
                                by_cases c28 : x11_4 < (l0.length : Int)
                                · rw [if_pos c28] at H
                                  have c28b0 : decide (x11_4 < (l0.length : Int)) = true := decide_eq_true c28
                                  clear c28
                                  (first | rw [c28b0] | (simp only [i64_w, i32_w]; rw [c28b0]) | skip)
                                  by_cases c29 : 0 ≤ x11_4
                                  · rw [if_pos c29] at H
                                    have c29b0 : decide (0 ≤ x11_4) = true := decide_eq_true c29
                                    clear c29
                                    have H' := Aside0.mk H
                                    clear H
                                    have p170 : 0 ≤ (x11_4 : Int) := of_decide_eq_true (by first | (with_reducible assumption) | assumption)
                                    have q170 : x11_4 < (l0.length : Int) := of_decide_eq_true (by first | (with_reducible assumption) | assumption)
                                    obtain ⟨ad170, e170, hx170_0, hx170_1, hx170_2, hx170_3, hx170_4⟩ := at_T30 HR0.out x11_4 p170 q170
                                    cases e170
                                    replace hx170_0 := (HB.out.cell (World.block_lt_of_cell? w _ hx170_0)).trans hx170_0
                                    replace hx170_1 := (HB.out.cell (World.block_lt_of_cell? w _ hx170_1)).trans hx170_1
                                    replace hx170_2 := (HB.out.cell (World.block_lt_of_cell? w _ hx170_2)).trans hx170_2
                                    replace hx170_3 := (HB.out.cell (World.block_lt_of_cell? w _ hx170_3)).trans hx170_3
                                    replace hx170_4 := (HB.out.cell (World.block_lt_of_cell? w _ hx170_4)).trans hx170_4
                                    replace p170 := eq_true p170
                                    replace q170 := eq_true q170
                                    go_wp2
                                    go_meet
                                    case rel => exact ⟨_, ((rd_T30 l0 x11_4).f0), (by first | rfl | (simp; done) | (simp [*]; done)), H', ⟨by have := HJ2.out; have := HK2.out; have := HJ14.out; have := HK4.out; have := HJ18.out; first | omega | exact Nat.le_refl _⟩, ⟨by repeat (first | (with_reducible first | exact HB.out | apply below_alloc | apply pw_below_drewN | apply below_drew1) | exact HB.out)⟩⟩
                                  · rw [if_neg c29] at H
                                    exact absurd H (by simp)
                                · rw [if_neg c28] at H
                                  have c28b0 : decide (x11_4 < (l0.length : Int)) = false := decide_eq_false c28
                                  clear c28
                                  (first | rw [c28b0] | (simp only [i64_w, i32_w]; rw [c28b0]) | skip)
                                  have H' := Aside0.mk H
                                  clear H
                                  go_wp2
                                  go_meet
                                  case rel => exact ⟨_, (false), (by first | rfl | (simp; done) | (simp [*]; done)), H', ⟨by have := HJ2.out; have := HK2.out; have := HJ14.out; have := HK4.out; have := HJ18.out; first | omega | exact Nat.le_refl _⟩, ⟨by repeat (first | (with_reducible first | exact HB.out | apply below_alloc | apply pw_below_drewN | apply below_drew1) | exact HB.out)⟩⟩
                              case rest =>
                                clear HC27
                                try clear c1
                                try clear p1
                                try clear q1
                                try clear hx1
                                try clear c2
                                try clear p2
                                try clear c4
                                try clear c4b0
                                try clear c4b1
                                try clear c5
                                try clear c6
                                try clear c6b0
                                try clear p6
                                try clear c7
                                try clear c7b0
                                try clear c9
                                try clear c10
                                try clear q10
                                try clear c11
                                try clear c12
                                try clear c16
                                try clear p16
                                try clear q16
                                try clear hx16
                                try clear c17
                                try clear p17
                                try clear q17
                                try clear hx17
                                try clear c18
                                try clear c18b0
                                try clear c20
                                try clear c22
                                try clear c22b0
                                try clear c22b1
                                try clear c22b2
                                try clear c25
                                try clear c25b0
                                try clear c25b1
                                try clear c25b2
                                try clear c28
                                try clear c28b0
                                try clear c29
                                try clear c29b0
                                try clear hx165_0
                                try clear hx165_1
                                try clear hx165_2
                                try clear hx165_3
                                try clear hx165_4
                                try clear hx167_0
                                try clear hx167_1
                                try clear hx167_2
                                try clear hx167_3
                                try clear hx167_4
                                try clear hx170_0
                                try clear hx170_1
                                try clear hx170_2
                                try clear hx170_3
                                try clear hx170_4
                                try clear p1
                                try clear p16
                                try clear p165
                                try clear p167
                                try clear p170
                                try clear p2
                                try clear p6
                                try clear q1
                                try clear q10
                                try clear q16
                                try clear q165
                                try clear q167
                                try clear q170
                                obtain ⟨kq, x74_26, rfl, HA, HJ26, HB⟩ := hcut
                                cases kq with
                                | zero => exact absurd HA.out (by simp [vinculumref07_Put.j5])
                                | succ kj26 =>
                                  have H := HA.out
                                  clear HA
                                  simp only [vinculumref07_Put.j5] at H
                                  by_cases c30 : x74_26 = true
                                  · subst c30
                                    have H1 : (if 0 ≤ x11_4 then (if x11_4 < (l0.length : Int) then (if x10_4.size + 2 ≤ 9223372036854775807 then ((vinculumref03_Bytes.f kj26 ((rd_T30 l0 x11_4).f1) 2).bind fun t173 => (if (x10_4 ++ (⟨#[0, 0]⟩ : ByteArray)).size + t173.size ≤ 9223372036854775807 then ((vinculumref03_Bytes.f kj26 ((rd_T30 l0 x11_4).f2) 2).bind fun t174 => (if ((x10_4 ++ (⟨#[0, 0]⟩ : ByteArray)) ++ t173).size + t174.size ≤ 9223372036854775807 then ((vinculumref03_Bytes.f kj26 ((rd_T30 l0 x11_4).f3) 2).bind fun t175 => (if (((x10_4 ++ (⟨#[0, 0]⟩ : ByteArray)) ++ t173) ++ t174).size + t175.size ≤ 9223372036854775807 then ((vinculumref03_Bytes.f kj26 ((rd_T30 l0 x11_4).f4) 2).bind fun t176 => (if ((((x10_4 ++ (⟨#[0, 0]⟩ : ByteArray)) ++ t173) ++ t174) ++ t175).size + t176.size ≤ 9223372036854775807 then (if (((((x10_4 ++ (⟨#[0, 0]⟩ : ByteArray)) ++ t173) ++ t174) ++ t175) ++ t176).size + 2 ≤ 9223372036854775807 then (vinculumref07_Put.l1 kj26 l0 a1 x9_18 ((((((x10_4 ++ (⟨#[0, 0]⟩ : ByteArray)) ++ t173) ++ t174) ++ t175) ++ t176) ++ (⟨#[0, 0]⟩ : ByteArray)) (wrap64 (x11_4 + 1))) else (none)) else (none))) else (none))) else (none))) else (none))) else (none)) else (none)) else (none)) = some (r1, r2, r3) := by rw [if_pos rfl] at H; exact H
                                    clear H
                                    have H := H1
                                    clear H1
                                    by_cases c31 : 0 ≤ x11_4
                                    · rw [if_pos c31] at H
                                      have c31b0 : decide (0 ≤ x11_4) = true := decide_eq_true c31
                                      clear c31
                                      by_cases c32 : x11_4 < (l0.length : Int)
                                      · rw [if_pos c32] at H
                                        have c32b0 : decide (x11_4 < (l0.length : Int)) = true := decide_eq_true c32
                                        clear c32
                                        by_cases c33 : x10_4.size + 2 ≤ 9223372036854775807
                                        · rw [if_pos c33] at H
                                          have c33b0 := eq_true c33
                                          have c33b1 : decide (x10_4.size + 2 ≤ 9223372036854775807) = true := decide_eq_true c33
                                          try have c33b2 : (9223372036854775807 < x10_4.size + 2) = False := eq_false (Nat.not_lt.2 c33)
                                          replace H := Option.bind_eq_some_iff.mp H
                                          obtain ⟨t173, A340, H⟩ := H
                                          replace H : (if (x10_4 ++ (⟨#[0, 0]⟩ : ByteArray)).size + t173.size ≤ 9223372036854775807 then ((vinculumref03_Bytes.f kj26 ((rd_T30 l0 x11_4).f2) 2).bind fun t174 => (if ((x10_4 ++ (⟨#[0, 0]⟩ : ByteArray)) ++ t173).size + t174.size ≤ 9223372036854775807 then ((vinculumref03_Bytes.f kj26 ((rd_T30 l0 x11_4).f3) 2).bind fun t175 => (if (((x10_4 ++ (⟨#[0, 0]⟩ : ByteArray)) ++ t173) ++ t174).size + t175.size ≤ 9223372036854775807 then ((vinculumref03_Bytes.f kj26 ((rd_T30 l0 x11_4).f4) 2).bind fun t176 => (if ((((x10_4 ++ (⟨#[0, 0]⟩ : ByteArray)) ++ t173) ++ t174) ++ t175).size + t176.size ≤ 9223372036854775807 then (if (((((x10_4 ++ (⟨#[0, 0]⟩ : ByteArray)) ++ t173) ++ t174) ++ t175) ++ t176).size + 2 ≤ 9223372036854775807 then (vinculumref07_Put.l1 kj26 l0 a1 x9_18 ((((((x10_4 ++ (⟨#[0, 0]⟩ : ByteArray)) ++ t173) ++ t174) ++ t175) ++ t176) ++ (⟨#[0, 0]⟩ : ByteArray)) (wrap64 (x11_4 + 1))) else (none)) else (none))) else (none))) else (none))) else (none)) = some (r1, r2, r3) := H
                                          have A34 := Aside0.mk A340
                                          clear A340
                                          by_cases c35 : (x10_4 ++ (⟨#[0, 0]⟩ : ByteArray)).size + t173.size ≤ 9223372036854775807
                                          · rw [if_pos c35] at H
                                            have c35b0 := eq_true c35
                                            have c35b1 : decide ((x10_4 ++ (⟨#[0, 0]⟩ : ByteArray)).size + t173.size ≤ 9223372036854775807) = true := decide_eq_true c35
                                            try have c35b2 : (9223372036854775807 < (x10_4 ++ (⟨#[0, 0]⟩ : ByteArray)).size + t173.size) = False := eq_false (Nat.not_lt.2 c35)
                                            try (have c35b3 := c35b2; simp only [ByteArray.size_append, show ∀ a b : UInt8, (⟨#[a, b]⟩ : ByteArray).size = 2 from fun _ _ => rfl] at c35b3)
                                            replace H := Option.bind_eq_some_iff.mp H
                                            obtain ⟨t174, A360, H⟩ := H
                                            replace H : (if ((x10_4 ++ (⟨#[0, 0]⟩ : ByteArray)) ++ t173).size + t174.size ≤ 9223372036854775807 then ((vinculumref03_Bytes.f kj26 ((rd_T30 l0 x11_4).f3) 2).bind fun t175 => (if (((x10_4 ++ (⟨#[0, 0]⟩ : ByteArray)) ++ t173) ++ t174).size + t175.size ≤ 9223372036854775807 then ((vinculumref03_Bytes.f kj26 ((rd_T30 l0 x11_4).f4) 2).bind fun t176 => (if ((((x10_4 ++ (⟨#[0, 0]⟩ : ByteArray)) ++ t173) ++ t174) ++ t175).size + t176.size ≤ 9223372036854775807 then (if (((((x10_4 ++ (⟨#[0, 0]⟩ : ByteArray)) ++ t173) ++ t174) ++ t175) ++ t176).size + 2 ≤ 9223372036854775807 then (vinculumref07_Put.l1 kj26 l0 a1 x9_18 ((((((x10_4 ++ (⟨#[0, 0]⟩ : ByteArray)) ++ t173) ++ t174) ++ t175) ++ t176) ++ (⟨#[0, 0]⟩ : ByteArray)) (wrap64 (x11_4 + 1))) else (none)) else (none))) else (none))) else (none)) = some (r1, r2, r3) := H
                                            have A36 := Aside0.mk A360
                                            clear A360
                                            by_cases c37 : ((x10_4 ++ (⟨#[0, 0]⟩ : ByteArray)) ++ t173).size + t174.size ≤ 9223372036854775807
                                            · rw [if_pos c37] at H
                                              have c37b0 := eq_true c37
                                              have c37b1 : decide (((x10_4 ++ (⟨#[0, 0]⟩ : ByteArray)) ++ t173).size + t174.size ≤ 9223372036854775807) = true := decide_eq_true c37
                                              try have c37b2 : (9223372036854775807 < ((x10_4 ++ (⟨#[0, 0]⟩ : ByteArray)) ++ t173).size + t174.size) = False := eq_false (Nat.not_lt.2 c37)
                                              try (have c37b3 := c37b2; simp only [ByteArray.size_append, show ∀ a b : UInt8, (⟨#[a, b]⟩ : ByteArray).size = 2 from fun _ _ => rfl] at c37b3)
                                              replace H := Option.bind_eq_some_iff.mp H
                                              obtain ⟨t175, A380, H⟩ := H
                                              replace H : (if (((x10_4 ++ (⟨#[0, 0]⟩ : ByteArray)) ++ t173) ++ t174).size + t175.size ≤ 9223372036854775807 then ((vinculumref03_Bytes.f kj26 ((rd_T30 l0 x11_4).f4) 2).bind fun t176 => (if ((((x10_4 ++ (⟨#[0, 0]⟩ : ByteArray)) ++ t173) ++ t174) ++ t175).size + t176.size ≤ 9223372036854775807 then (if (((((x10_4 ++ (⟨#[0, 0]⟩ : ByteArray)) ++ t173) ++ t174) ++ t175) ++ t176).size + 2 ≤ 9223372036854775807 then (vinculumref07_Put.l1 kj26 l0 a1 x9_18 ((((((x10_4 ++ (⟨#[0, 0]⟩ : ByteArray)) ++ t173) ++ t174) ++ t175) ++ t176) ++ (⟨#[0, 0]⟩ : ByteArray)) (wrap64 (x11_4 + 1))) else (none)) else (none))) else (none)) = some (r1, r2, r3) := H
                                              have A38 := Aside0.mk A380
                                              clear A380
                                              by_cases c39 : (((x10_4 ++ (⟨#[0, 0]⟩ : ByteArray)) ++ t173) ++ t174).size + t175.size ≤ 9223372036854775807
                                              · rw [if_pos c39] at H
                                                have c39b0 := eq_true c39
                                                have c39b1 : decide ((((x10_4 ++ (⟨#[0, 0]⟩ : ByteArray)) ++ t173) ++ t174).size + t175.size ≤ 9223372036854775807) = true := decide_eq_true c39
                                                try have c39b2 : (9223372036854775807 < (((x10_4 ++ (⟨#[0, 0]⟩ : ByteArray)) ++ t173) ++ t174).size + t175.size) = False := eq_false (Nat.not_lt.2 c39)
                                                try (have c39b3 := c39b2; simp only [ByteArray.size_append, show ∀ a b : UInt8, (⟨#[a, b]⟩ : ByteArray).size = 2 from fun _ _ => rfl] at c39b3)
                                                replace H := Option.bind_eq_some_iff.mp H
                                                obtain ⟨t176, A400, H⟩ := H
                                                replace H : (if ((((x10_4 ++ (⟨#[0, 0]⟩ : ByteArray)) ++ t173) ++ t174) ++ t175).size + t176.size ≤ 9223372036854775807 then (if (((((x10_4 ++ (⟨#[0, 0]⟩ : ByteArray)) ++ t173) ++ t174) ++ t175) ++ t176).size + 2 ≤ 9223372036854775807 then (vinculumref07_Put.l1 kj26 l0 a1 x9_18 ((((((x10_4 ++ (⟨#[0, 0]⟩ : ByteArray)) ++ t173) ++ t174) ++ t175) ++ t176) ++ (⟨#[0, 0]⟩ : ByteArray)) (wrap64 (x11_4 + 1))) else (none)) else (none)) = some (r1, r2, r3) := H
                                                have A40 := Aside0.mk A400
                                                clear A400
                                                by_cases c41 : ((((x10_4 ++ (⟨#[0, 0]⟩ : ByteArray)) ++ t173) ++ t174) ++ t175).size + t176.size ≤ 9223372036854775807
                                                · rw [if_pos c41] at H
                                                  have c41b0 := eq_true c41
                                                  have c41b1 : decide (((((x10_4 ++ (⟨#[0, 0]⟩ : ByteArray)) ++ t173) ++ t174) ++ t175).size + t176.size ≤ 9223372036854775807) = true := decide_eq_true c41
                                                  try have c41b2 : (9223372036854775807 < ((((x10_4 ++ (⟨#[0, 0]⟩ : ByteArray)) ++ t173) ++ t174) ++ t175).size + t176.size) = False := eq_false (Nat.not_lt.2 c41)
                                                  try (have c41b3 := c41b2; simp only [ByteArray.size_append, show ∀ a b : UInt8, (⟨#[a, b]⟩ : ByteArray).size = 2 from fun _ _ => rfl] at c41b3)
                                                  by_cases c42 : (((((x10_4 ++ (⟨#[0, 0]⟩ : ByteArray)) ++ t173) ++ t174) ++ t175) ++ t176).size + 2 ≤ 9223372036854775807
                                                  · rw [if_pos c42] at H
                                                    have c42b0 := eq_true c42
                                                    have c42b1 : decide ((((((x10_4 ++ (⟨#[0, 0]⟩ : ByteArray)) ++ t173) ++ t174) ++ t175) ++ t176).size + 2 ≤ 9223372036854775807) = true := decide_eq_true c42
                                                    try have c42b2 : (9223372036854775807 < (((((x10_4 ++ (⟨#[0, 0]⟩ : ByteArray)) ++ t173) ++ t174) ++ t175) ++ t176).size + 2) = False := eq_false (Nat.not_lt.2 c42)
                                                    try (have c42b3 := c42b2; simp only [ByteArray.size_append, show ∀ a b : UInt8, (⟨#[a, b]⟩ : ByteArray).size = 2 from fun _ _ => rfl] at c42b3)
                                                    have H' := Aside0.mk H
                                                    clear H
                                                    have p171 : 0 ≤ (x11_4 : Int) := of_decide_eq_true (by first | (with_reducible assumption) | assumption)
                                                    have q171 : x11_4 < (l0.length : Int) := of_decide_eq_true (by first | (with_reducible assumption) | assumption)
                                                    obtain ⟨ad171, e171, hx171_0, hx171_1, hx171_2, hx171_3, hx171_4⟩ := at_T30 HR0.out x11_4 p171 q171
                                                    cases e171
                                                    replace hx171_0 := (HB.out.cell (World.block_lt_of_cell? w _ hx171_0)).trans hx171_0
                                                    replace hx171_1 := (HB.out.cell (World.block_lt_of_cell? w _ hx171_1)).trans hx171_1
                                                    replace hx171_2 := (HB.out.cell (World.block_lt_of_cell? w _ hx171_2)).trans hx171_2
                                                    replace hx171_3 := (HB.out.cell (World.block_lt_of_cell? w _ hx171_3)).trans hx171_3
                                                    replace hx171_4 := (HB.out.cell (World.block_lt_of_cell? w _ hx171_4)).trans hx171_4
                                                    replace p171 := eq_true p171
                                                    replace q171 := eq_true q171
                                                    try go_wp2_with (first | ((with_reducible refine gate_dst (N := 12) rfl ?_); (try (refine gate_guard (by rfl) ?_; dsimp only)); refine box_event ?hg (N := 12) ?hd (cs := #[.bool false, .int .i64 0, .int .i64 0, .int .i64 0, .int .i64 0]) (t := 30) ?hr ?_; (case hd => rfl); (case hg => rfl); (case hr => first | (go_simp; done) | (go_simp; rfl)); intro gb172 hg w43 hbox hb; have n0_ := Aside0.mk (below_step (by repeat (first | (with_reducible first | exact HB.out | apply below_alloc | apply pw_below_drewN | apply below_drew1) | exact HB.out)) hb); have n1_ := Aside0.mk (hbox); have n2_ := Aside0.mk ((by rw [hg]; exact (below_size (by repeat (first | (with_reducible first | exact HB.out | apply below_alloc | apply pw_below_drewN | apply below_drew1) | exact HB.out))) : w.heap.size ≤ gb172)); have n3_ := Aside0.mk ((by rw [hg]; exact (below_size (by repeat (first | (with_reducible first | exact HB.out | apply below_alloc | apply pw_below_drewN | apply below_drew1) | exact HB.out))) : w.heap.size ≤ gb172)); clear HB; have HB := n0_; have BK172 := n1_; have GW172 := n2_; have GE172 := n3_; clear n0_ n1_ n2_ n3_; clear hb hbox hg; have hcz44_0 : w43.cell? ⟨gb172, 0, none⟩ = some (.bool false) := (blk_cell BK172.out 0).trans rfl; have hcz44_1 : w43.cell? ⟨gb172, 1, none⟩ = some (.int .i64 0) := (blk_cell BK172.out 1).trans rfl; have hcz44_2 : w43.cell? ⟨gb172, 2, none⟩ = some (.int .i64 0) := (blk_cell BK172.out 2).trans rfl; have hcz44_3 : w43.cell? ⟨gb172, 3, none⟩ = some (.int .i64 0) := (blk_cell BK172.out 3).trans rfl; have hcz44_4 : w43.cell? ⟨gb172, 4, none⟩ = some (.int .i64 0) := (blk_cell BK172.out 4).trans rfl; have hfz44_0 := blk_frozen BK172.out 0; have hfz44_1 := blk_frozen BK172.out 1; have hfz44_2 := blk_frozen BK172.out 2; have hfz44_3 := blk_frozen BK172.out 3; have hfz44_4 := blk_frozen BK172.out 4))
                                                    have n0_ : Aside0 ((((((w43.setCell ⟨gb172, 0, none⟩ (.bool ((rd_T30 l0 x11_4).f0))).setCell ⟨gb172, 1, none⟩ (.int .i64 ((rd_T30 l0 x11_4).f1))).setCell ⟨gb172, 2, none⟩ (.int .i64 ((rd_T30 l0 x11_4).f2))).setCell ⟨gb172, 3, none⟩ (.int .i64 ((rd_T30 l0 x11_4).f3))).setCell ⟨gb172, 4, none⟩ (.int .i64 ((rd_T30 l0 x11_4).f4))).heap[gb172]? = some (.cells #[.bool ((rd_T30 l0 x11_4).f0), .int .i64 ((rd_T30 l0 x11_4).f1), .int .i64 ((rd_T30 l0 x11_4).f2), .int .i64 ((rd_T30 l0 x11_4).f3), .int .i64 ((rd_T30 l0 x11_4).f4)] 30 (0, 0))) := ⟨by (with_reducible repeat (first | refine blk_drewN ?_ _ | refine blk_drew ?_ | refine blk_alloc ?_ _)); refine blk_put (cs := #[.bool ((rd_T30 l0 x11_4).f0), .int .i64 ((rd_T30 l0 x11_4).f1), .int .i64 ((rd_T30 l0 x11_4).f2), .int .i64 ((rd_T30 l0 x11_4).f3), .int .i64 0]) ?_ 4 _ rfl; (with_reducible repeat (first | refine blk_drewN ?_ _ | refine blk_drew ?_ | refine blk_alloc ?_ _)); refine blk_put (cs := #[.bool ((rd_T30 l0 x11_4).f0), .int .i64 ((rd_T30 l0 x11_4).f1), .int .i64 ((rd_T30 l0 x11_4).f2), .int .i64 0, .int .i64 0]) ?_ 3 _ rfl; (with_reducible repeat (first | refine blk_drewN ?_ _ | refine blk_drew ?_ | refine blk_alloc ?_ _)); refine blk_put (cs := #[.bool ((rd_T30 l0 x11_4).f0), .int .i64 ((rd_T30 l0 x11_4).f1), .int .i64 0, .int .i64 0, .int .i64 0]) ?_ 2 _ rfl; (with_reducible repeat (first | refine blk_drewN ?_ _ | refine blk_drew ?_ | refine blk_alloc ?_ _)); refine blk_put (cs := #[.bool ((rd_T30 l0 x11_4).f0), .int .i64 0, .int .i64 0, .int .i64 0, .int .i64 0]) ?_ 1 _ rfl; (with_reducible repeat (first | refine blk_drewN ?_ _ | refine blk_drew ?_ | refine blk_alloc ?_ _)); refine blk_put (cs := #[.bool false, .int .i64 0, .int .i64 0, .int .i64 0, .int .i64 0]) ?_ 0 _ rfl; (with_reducible repeat (first | refine blk_drewN ?_ _ | refine blk_drew ?_ | refine blk_alloc ?_ _)); exact BK172.out⟩
                                                    have n1_ : Aside0 (Below w.heap.size w (((((w43.setCell ⟨gb172, 0, none⟩ (.bool ((rd_T30 l0 x11_4).f0))).setCell ⟨gb172, 1, none⟩ (.int .i64 ((rd_T30 l0 x11_4).f1))).setCell ⟨gb172, 2, none⟩ (.int .i64 ((rd_T30 l0 x11_4).f2))).setCell ⟨gb172, 3, none⟩ (.int .i64 ((rd_T30 l0 x11_4).f3))).setCell ⟨gb172, 4, none⟩ (.int .i64 ((rd_T30 l0 x11_4).f4)))) := ⟨by repeat (first | (with_reducible first | exact HB.out | apply below_alloc | apply pw_below_drewN | apply below_drew1 | refine below_set ?_ GE172.out) | exact HB.out)⟩
                                                    (try clear BK172)
                                                    (try clear HB)
                                                    generalize (((((w43.setCell ⟨gb172, 0, none⟩ (.bool ((rd_T30 l0 x11_4).f0))).setCell ⟨gb172, 1, none⟩ (.int .i64 ((rd_T30 l0 x11_4).f1))).setCell ⟨gb172, 2, none⟩ (.int .i64 ((rd_T30 l0 x11_4).f2))).setCell ⟨gb172, 3, none⟩ (.int .i64 ((rd_T30 l0 x11_4).f3))).setCell ⟨gb172, 4, none⟩ (.int .i64 ((rd_T30 l0 x11_4).f4))) = w45 at n0_ n1_ ⊢
                                                    have BK172 := n0_
                                                    have HB := n1_
                                                    clear n0_ n1_
                                                    have n0_ := Aside0.mk (blk_drew BK172.out)
                                                    have n1_ := Aside0.mk (below_drew1 HB.out)
                                                    clear BK172
                                                    clear HB
                                                    have BK172 := n0_
                                                    have HB := n1_
                                                    clear n0_ n1_
                                                    refine start_ (n := 20) (S := fun w' => w'.cell? ⟨gb172, 0, none⟩ = some (.bool ((rd_T30 l0 x11_4).f0)) ∧ w'.cell? ⟨gb172, 1, none⟩ = some (.int .i64 ((rd_T30 l0 x11_4).f1)) ∧ w'.cell? ⟨gb172, 2, none⟩ = some (.int .i64 ((rd_T30 l0 x11_4).f2)) ∧ w'.cell? ⟨gb172, 3, none⟩ = some (.int .i64 ((rd_T30 l0 x11_4).f3)) ∧ w'.cell? ⟨gb172, 4, none⟩ = some (.int .i64 ((rd_T30 l0 x11_4).f4))) (ds := []) #[false, false, false, false, false, false, false, false, false, false, false, false, false, false, false, false, false, false, false, false] (by kernel_rfl) rfl rfl ⟨(blk_cell BK172.out 0).trans rfl, (blk_cell BK172.out 1).trans rfl, (blk_cell BK172.out 2).trans rfl, (blk_cell BK172.out 3).trans rfl, (blk_cell BK172.out 4).trans rfl⟩ (fun hHeld => ?_); refine with_tabW vinculumref07_Put.tab23 vinculumref07_Put.bits23 (fun HT_ HW_ => ?_)
                                                    generalize w45.drew = w46 at BK172 HB hHeld ⊢
                                                    refine pure_ (i := 0) (N := some 79) (v := ?_) (a' := ?_) #[true, false, false, false, false, false, false, false, false, false, false, false, false, false, false, false, false, false, false, false] rfl rfl (any_of HT_.out (by kernel_rfl)) (fun _ _ _ h => h) (Or.inl ⟨by rfl, ?_⟩) ?_ ?_
                                                    rotate_left
                                                    · intro w'
                                                      go_simp
                                                      with_reducible rfl
                                                    rotate_left
                                                    · simp only [Act.put, List.setIfInBounds_toArray, List.set_cons_zero, List.set_cons_succ, i64_w, i32_w]
                                                      rfl
                                                    refine pure_ (i := 1) (N := some 80) (v := ?_) (a' := ?_) #[true, true, false, false, false, false, false, false, false, false, false, false, false, false, false, false, false, false, false, false] rfl rfl (any_of HT_.out (by kernel_rfl)) (fun _ _ _ h => h) (Or.inl ⟨by rfl, ?_⟩) ?_ ?_
                                                    rotate_left
                                                    · intro w'
                                                      go_simp
                                                      with_reducible rfl
                                                    rotate_left
                                                    · simp only [Act.put, List.setIfInBounds_toArray, List.set_cons_zero, List.set_cons_succ, i64_w, i32_w]
                                                      rfl
                                                    refine pure_ (i := 2) (N := some 81) (v := ?_) (a' := ?_) #[true, true, true, false, false, false, false, false, false, false, false, false, false, false, false, false, false, false, false, false] rfl rfl (any_of HT_.out (by kernel_rfl)) (fun _ _ _ h => h) (Or.inl ⟨by rfl, ?_⟩) ?_ ?_
                                                    rotate_left
                                                    · intro w'
                                                      go_simp
                                                      with_reducible rfl
                                                    rotate_left
                                                    · simp only [Act.put, List.setIfInBounds_toArray, List.set_cons_zero, List.set_cons_succ, i64_w, i32_w]
                                                      rfl
                                                    refine pure_ (i := 6) (N := some 85) (v := ?_) (a' := ?_) #[true, true, true, false, false, false, true, false, false, false, false, false, false, false, false, false, false, false, false, false] rfl rfl (any_of HT_.out (by kernel_rfl)) (fun _ _ _ h => h) (Or.inl ⟨by rfl, ?_⟩) ?_ ?_
                                                    rotate_left
                                                    · intro w'
                                                      go_simp
                                                      with_reducible rfl
                                                    rotate_left
                                                    · simp only [Act.put, List.setIfInBounds_toArray, List.set_cons_zero, List.set_cons_succ, i64_w, i32_w]
                                                      rfl
                                                    refine pure_ (i := 10) (N := some 89) (v := ?_) (a' := ?_) #[true, true, true, false, false, false, true, false, false, false, true, false, false, false, false, false, false, false, false, false] rfl rfl (any_of HT_.out (by kernel_rfl)) (fun _ _ _ h => h) (Or.inl ⟨by rfl, ?_⟩) ?_ ?_
                                                    rotate_left
                                                    · intro w'
                                                      go_simp
                                                      with_reducible rfl
                                                    rotate_left
                                                    · simp only [Act.put, List.setIfInBounds_toArray, List.set_cons_zero, List.set_cons_succ, i64_w, i32_w]
                                                      rfl
                                                    refine pure_ (i := 14) (N := some 93) (v := ?_) (a' := ?_) #[true, true, true, false, false, false, true, false, false, false, true, false, false, false, true, false, false, false, false, false] rfl rfl (any_of HT_.out (by kernel_rfl)) (fun _ _ _ h => h) (Or.inl ⟨by rfl, ?_⟩) ?_ ?_
                                                    rotate_left
                                                    · intro w'
                                                      go_simp
                                                      with_reducible rfl
                                                    rotate_left
                                                    · simp only [Act.put, List.setIfInBounds_toArray, List.set_cons_zero, List.set_cons_succ, i64_w, i32_w]
                                                      rfl
                                                    refine take_ (i := 3) (N := some 82) (v := ?_) (a' := ?_) #[true, true, true, true, false, false, true, false, false, false, true, false, false, false, true, false, false, false, false, false] rfl rfl (take_ofW HT_.out HW_.out (by kernel_rfl)) (fun _ _ _ h => h) (Or.inl ⟨by rfl, ?_⟩) hHeld ?_ ?_
                                                    rotate_left
                                                    · rintro w' ⟨s0, s1, s2, s3, s4⟩
                                                      go_simp
                                                      with_reducible rfl
                                                    rotate_left
                                                    · simp only [Act.put, List.setIfInBounds_toArray, List.set_cons_zero, List.set_cons_succ, i64_w, i32_w]
                                                      rfl
                                                    refine take_ (i := 7) (N := some 86) (v := ?_) (a' := ?_) #[true, true, true, true, false, false, true, true, false, false, true, false, false, false, true, false, false, false, false, false] rfl rfl (take_ofW HT_.out HW_.out (by kernel_rfl)) (fun _ _ _ h => h) (Or.inl ⟨by rfl, ?_⟩) hHeld ?_ ?_
                                                    rotate_left
                                                    · rintro w' ⟨s0, s1, s2, s3, s4⟩
                                                      go_simp
                                                      with_reducible rfl
                                                    rotate_left
                                                    · simp only [Act.put, List.setIfInBounds_toArray, List.set_cons_zero, List.set_cons_succ, i64_w, i32_w]
                                                      rfl
                                                    refine take_ (i := 11) (N := some 90) (v := ?_) (a' := ?_) #[true, true, true, true, false, false, true, true, false, false, true, true, false, false, true, false, false, false, false, false] rfl rfl (take_ofW HT_.out HW_.out (by kernel_rfl)) (fun _ _ _ h => h) (Or.inl ⟨by rfl, ?_⟩) hHeld ?_ ?_
                                                    rotate_left
                                                    · rintro w' ⟨s0, s1, s2, s3, s4⟩
                                                      go_simp
                                                      with_reducible rfl
                                                    rotate_left
                                                    · simp only [Act.put, List.setIfInBounds_toArray, List.set_cons_zero, List.set_cons_succ, i64_w, i32_w]
                                                      rfl
                                                    refine take_ (i := 15) (N := some 94) (v := ?_) (a' := ?_) #[true, true, true, true, false, false, true, true, false, false, true, true, false, false, true, true, false, false, false, false] rfl rfl (take_ofW HT_.out HW_.out (by kernel_rfl)) (fun _ _ _ h => h) (Or.inl ⟨by rfl, ?_⟩) hHeld ?_ ?_
                                                    rotate_left
                                                    · rintro w' ⟨s0, s1, s2, s3, s4⟩
                                                      go_simp
                                                      with_reducible rfl
                                                    rotate_left
                                                    · simp only [Act.put, List.setIfInBounds_toArray, List.set_cons_zero, List.set_cons_succ, i64_w, i32_w]
                                                      rfl
                                                    refine one_ (i := 4) (N := some 83) #[true, true, true, true, true, false, true, true, false, false, true, true, false, false, true, true, false, false, false, false] rfl rfl (one_of HT_.out (by kernel_rfl)) (by decide) (fun K hK => ?_)
                                                    refine goes_ Try.func29 (by kernel_rfl) rfl #[.int .i64 ((rd_T30 l0 x11_4).f1), .int .i64 2] (by rfl) rfl rfl (by (try simp only [List.map_toArray, List.map_cons, List.map_nil]); first | done | rfl | (simp only [List.length_drop, List.length_take]; rfl)) ?_
                                                    with_reducible refine (vinculumref03_Bytes.calls kj26 ((rd_T30 l0 x11_4).f1) 2 t173 _ A34.out).mono ?_
                                                    rintro e w47 ⟨rfl, hb⟩
                                                    refine ⟨_, rfl, ?_⟩
                                                    have n0_ := Aside0.mk (blk_below (g := gb172) (o := .cells #[.bool ((rd_T30 l0 x11_4).f0), .int .i64 ((rd_T30 l0 x11_4).f1), .int .i64 ((rd_T30 l0 x11_4).f2), .int .i64 ((rd_T30 l0 x11_4).f3), .int .i64 ((rd_T30 l0 x11_4).f4)] 30 (0, 0)) (by (with_reducible repeat (first | refine blk_drewN ?_ _ | refine blk_drew ?_ | refine blk_alloc ?_ _)); exact BK172.out) hb)
                                                    have n1_ := Aside0.mk (below_step (by repeat (first | (with_reducible first | exact HB.out | apply below_alloc | apply pw_below_drewN | apply below_drew1 | refine below_set ?_ GE172.out) | exact HB.out)) hb)
                                                    clear BK172
                                                    clear HB
                                                    have BK172 := n0_
                                                    have HB := n1_
                                                    clear n0_ n1_
                                                    (try clear hb)
                                                    (try clear hb2)
                                                    (try clear hk)
                                                    (try clear hi)
                                                    refine hK.out _ _ ⟨(blk_cell BK172.out 0).trans rfl, (blk_cell BK172.out 1).trans rfl, (blk_cell BK172.out 2).trans rfl, (blk_cell BK172.out 3).trans rfl, (blk_cell BK172.out 4).trans rfl⟩ (fun hHeld => ?_)
                                                    clear hK K
                                                    refine norm_ (a' := ?_) ?_ ?_
                                                    rotate_left
                                                    · show Act.put _ (some 83) _ = _
                                                      simp only [Act.put, List.setIfInBounds_toArray, List.set_cons_zero, List.set_cons_succ, i64_w, i32_w]
                                                      rfl
                                                    refine pure_ (i := 5) (N := some 84) (v := ?_) (a' := ?_) #[true, true, true, true, true, true, true, true, false, false, true, true, false, false, true, true, false, false, false, false] rfl rfl (any_of HT_.out (by kernel_rfl)) (fun _ _ _ h => h) (Or.inl ⟨by rfl, ?_⟩) ?_ ?_
                                                    rotate_left
                                                    · intro w'
                                                      go_simp
                                                      with_reducible rfl
                                                    rotate_left
                                                    · simp only [Act.put, List.setIfInBounds_toArray, List.set_cons_zero, List.set_cons_succ, i64_w, i32_w]
                                                      rfl
                                                    refine one_ (i := 8) (N := some 87) #[true, true, true, true, true, true, true, true, true, false, true, true, false, false, true, true, false, false, false, false] rfl rfl (one_of HT_.out (by kernel_rfl)) (by decide) (fun K hK => ?_)
                                                    refine goes_ Try.func29 (by kernel_rfl) rfl #[.int .i64 ((rd_T30 l0 x11_4).f2), .int .i64 2] (by rfl) rfl rfl (by (try simp only [List.map_toArray, List.map_cons, List.map_nil]); first | done | rfl | (simp only [List.length_drop, List.length_take]; rfl)) ?_
                                                    with_reducible refine (vinculumref03_Bytes.calls kj26 ((rd_T30 l0 x11_4).f2) 2 t174 _ A36.out).mono ?_
                                                    rintro e w48 ⟨rfl, hb⟩
                                                    refine ⟨_, rfl, ?_⟩
                                                    have n0_ := Aside0.mk (blk_below (g := gb172) (o := .cells #[.bool ((rd_T30 l0 x11_4).f0), .int .i64 ((rd_T30 l0 x11_4).f1), .int .i64 ((rd_T30 l0 x11_4).f2), .int .i64 ((rd_T30 l0 x11_4).f3), .int .i64 ((rd_T30 l0 x11_4).f4)] 30 (0, 0)) (by (with_reducible repeat (first | refine blk_drewN ?_ _ | refine blk_drew ?_ | refine blk_alloc ?_ _)); exact BK172.out) hb)
                                                    have n1_ := Aside0.mk (below_step (by repeat (first | (with_reducible first | exact HB.out | apply below_alloc | apply pw_below_drewN | apply below_drew1 | refine below_set ?_ GE172.out) | exact HB.out)) hb)
                                                    clear BK172
                                                    clear HB
                                                    have BK172 := n0_
                                                    have HB := n1_
                                                    clear n0_ n1_
                                                    (try clear hb)
                                                    (try clear hb2)
                                                    (try clear hk)
                                                    (try clear hi)
                                                    refine hK.out _ _ ⟨(blk_cell BK172.out 0).trans rfl, (blk_cell BK172.out 1).trans rfl, (blk_cell BK172.out 2).trans rfl, (blk_cell BK172.out 3).trans rfl, (blk_cell BK172.out 4).trans rfl⟩ (fun hHeld => ?_)
                                                    clear hK K
                                                    refine norm_ (a' := ?_) ?_ ?_
                                                    rotate_left
                                                    · show Act.put _ (some 87) _ = _
                                                      simp only [Act.put, List.setIfInBounds_toArray, List.set_cons_zero, List.set_cons_succ, i64_w, i32_w]
                                                      rfl
                                                    refine pure_ (i := 9) (N := some 88) (v := ?_) (a' := ?_) #[true, true, true, true, true, true, true, true, true, true, true, true, false, false, true, true, false, false, false, false] rfl rfl (any_of HT_.out (by kernel_rfl)) (fun _ _ _ h => h) (Or.inl ⟨by rfl, ?_⟩) ?_ ?_
                                                    rotate_left
                                                    · intro w'
                                                      go_simp
                                                      with_reducible rfl
                                                    rotate_left
                                                    · simp only [Act.put, List.setIfInBounds_toArray, List.set_cons_zero, List.set_cons_succ, i64_w, i32_w]
                                                      rfl
                                                    refine one_ (i := 12) (N := some 91) #[true, true, true, true, true, true, true, true, true, true, true, true, true, false, true, true, false, false, false, false] rfl rfl (one_of HT_.out (by kernel_rfl)) (by decide) (fun K hK => ?_)
                                                    refine goes_ Try.func29 (by kernel_rfl) rfl #[.int .i64 ((rd_T30 l0 x11_4).f3), .int .i64 2] (by rfl) rfl rfl (by (try simp only [List.map_toArray, List.map_cons, List.map_nil]); first | done | rfl | (simp only [List.length_drop, List.length_take]; rfl)) ?_
                                                    with_reducible refine (vinculumref03_Bytes.calls kj26 ((rd_T30 l0 x11_4).f3) 2 t175 _ A38.out).mono ?_
                                                    rintro e w49 ⟨rfl, hb⟩
                                                    refine ⟨_, rfl, ?_⟩
                                                    have n0_ := Aside0.mk (blk_below (g := gb172) (o := .cells #[.bool ((rd_T30 l0 x11_4).f0), .int .i64 ((rd_T30 l0 x11_4).f1), .int .i64 ((rd_T30 l0 x11_4).f2), .int .i64 ((rd_T30 l0 x11_4).f3), .int .i64 ((rd_T30 l0 x11_4).f4)] 30 (0, 0)) (by (with_reducible repeat (first | refine blk_drewN ?_ _ | refine blk_drew ?_ | refine blk_alloc ?_ _)); exact BK172.out) hb)
                                                    have n1_ := Aside0.mk (below_step (by repeat (first | (with_reducible first | exact HB.out | apply below_alloc | apply pw_below_drewN | apply below_drew1 | refine below_set ?_ GE172.out) | exact HB.out)) hb)
                                                    clear BK172
                                                    clear HB
                                                    have BK172 := n0_
                                                    have HB := n1_
                                                    clear n0_ n1_
                                                    (try clear hb)
                                                    (try clear hb2)
                                                    (try clear hk)
                                                    (try clear hi)
                                                    refine hK.out _ _ ⟨(blk_cell BK172.out 0).trans rfl, (blk_cell BK172.out 1).trans rfl, (blk_cell BK172.out 2).trans rfl, (blk_cell BK172.out 3).trans rfl, (blk_cell BK172.out 4).trans rfl⟩ (fun hHeld => ?_)
                                                    clear hK K
                                                    refine norm_ (a' := ?_) ?_ ?_
                                                    rotate_left
                                                    · show Act.put _ (some 91) _ = _
                                                      simp only [Act.put, List.setIfInBounds_toArray, List.set_cons_zero, List.set_cons_succ, i64_w, i32_w]
                                                      rfl
                                                    refine pure_ (i := 13) (N := some 92) (v := ?_) (a' := ?_) #[true, true, true, true, true, true, true, true, true, true, true, true, true, true, true, true, false, false, false, false] rfl rfl (any_of HT_.out (by kernel_rfl)) (fun _ _ _ h => h) (Or.inl ⟨by rfl, ?_⟩) ?_ ?_
                                                    rotate_left
                                                    · intro w'
                                                      go_simp
                                                      with_reducible rfl
                                                    rotate_left
                                                    · simp only [Act.put, List.setIfInBounds_toArray, List.set_cons_zero, List.set_cons_succ, i64_w, i32_w]
                                                      rfl
                                                    refine one_ (i := 16) (N := some 95) #[true, true, true, true, true, true, true, true, true, true, true, true, true, true, true, true, true, false, false, false] rfl rfl (one_of HT_.out (by kernel_rfl)) (by decide) (fun K hK => ?_)
                                                    refine goes_ Try.func29 (by kernel_rfl) rfl #[.int .i64 ((rd_T30 l0 x11_4).f4), .int .i64 2] (by rfl) rfl rfl (by (try simp only [List.map_toArray, List.map_cons, List.map_nil]); first | done | rfl | (simp only [List.length_drop, List.length_take]; rfl)) ?_
                                                    with_reducible refine (vinculumref03_Bytes.calls kj26 ((rd_T30 l0 x11_4).f4) 2 t176 _ A40.out).mono ?_
                                                    rintro e w50 ⟨rfl, hb⟩
                                                    refine ⟨_, rfl, ?_⟩
                                                    have n0_ := Aside0.mk (blk_below (g := gb172) (o := .cells #[.bool ((rd_T30 l0 x11_4).f0), .int .i64 ((rd_T30 l0 x11_4).f1), .int .i64 ((rd_T30 l0 x11_4).f2), .int .i64 ((rd_T30 l0 x11_4).f3), .int .i64 ((rd_T30 l0 x11_4).f4)] 30 (0, 0)) (by (with_reducible repeat (first | refine blk_drewN ?_ _ | refine blk_drew ?_ | refine blk_alloc ?_ _)); exact BK172.out) hb)
                                                    have n1_ := Aside0.mk (below_step (by repeat (first | (with_reducible first | exact HB.out | apply below_alloc | apply pw_below_drewN | apply below_drew1 | refine below_set ?_ GE172.out) | exact HB.out)) hb)
                                                    clear BK172
                                                    clear HB
                                                    have BK172 := n0_
                                                    have HB := n1_
                                                    clear n0_ n1_
                                                    (try clear hb)
                                                    (try clear hb2)
                                                    (try clear hk)
                                                    (try clear hi)
                                                    refine hK.out _ _ ⟨(blk_cell BK172.out 0).trans rfl, (blk_cell BK172.out 1).trans rfl, (blk_cell BK172.out 2).trans rfl, (blk_cell BK172.out 3).trans rfl, (blk_cell BK172.out 4).trans rfl⟩ (fun hHeld => ?_)
                                                    clear hK K
                                                    refine norm_ (a' := ?_) ?_ ?_
                                                    rotate_left
                                                    · show Act.put _ (some 95) _ = _
                                                      simp only [Act.put, List.setIfInBounds_toArray, List.set_cons_zero, List.set_cons_succ, i64_w, i32_w]
                                                      rfl
                                                    refine pure_ (i := 17) (N := some 96) (v := ?_) (a' := ?_) #[true, true, true, true, true, true, true, true, true, true, true, true, true, true, true, true, true, true, false, false] rfl rfl (any_of HT_.out (by kernel_rfl)) (fun _ _ _ h => h) (Or.inl ⟨by rfl, ?_⟩) ?_ ?_
                                                    rotate_left
                                                    · intro w'
                                                      go_simp
                                                      with_reducible rfl
                                                    rotate_left
                                                    · simp only [Act.put, List.setIfInBounds_toArray, List.set_cons_zero, List.set_cons_succ, i64_w, i32_w]
                                                      rfl
                                                    refine pure_ (i := 18) (N := some 97) (v := ?_) (a' := ?_) #[true, true, true, true, true, true, true, true, true, true, true, true, true, true, true, true, true, true, true, false] rfl rfl (any_of HT_.out (by kernel_rfl)) (fun _ _ _ h => h) (Or.inl ⟨by rfl, ?_⟩) ?_ ?_
                                                    rotate_left
                                                    · intro w'
                                                      go_simp
                                                      with_reducible rfl
                                                    rotate_left
                                                    · simp only [Act.put, List.setIfInBounds_toArray, List.set_cons_zero, List.set_cons_succ, i64_w, i32_w]
                                                      rfl
                                                    refine pure_ (i := 19) (N := some 10) (v := ?_) (a' := ?_) #[true, true, true, true, true, true, true, true, true, true, true, true, true, true, true, true, true, true, true, true] rfl rfl (any_of HT_.out (by kernel_rfl)) (fun _ _ _ h => h) (Or.inl ⟨by rfl, ?_⟩) ?_ ?_
                                                    rotate_left
                                                    · intro w'
                                                      go_simp
                                                      with_reducible rfl
                                                    rotate_left
                                                    · simp only [Act.put, List.setIfInBounds_toArray, List.set_cons_zero, List.set_cons_succ, i64_w, i32_w]
                                                      rfl
                                                    refine done_ (done_of HT_.out (by kernel_rfl)) ?_
                                                    try go_wp2
                                                    go_roundg kj26
                                                    case measure => have := HJ2.out; have := HK2.out; have := HJ14.out; have := HK4.out; have := HJ18.out; have := HJ26.out; omega
                                                    case rel => exact ⟨(x9_18), ((((((x10_4 ++ (⟨#[0, 0]⟩ : ByteArray)) ++ t173) ++ t174) ++ t175) ++ t176) ++ (⟨#[0, 0]⟩ : ByteArray)), (wrap64 (x11_4 + 1)), (by first | rfl | (simp; done) | (simp [*]; done)), (by first | rfl | (simp; done) | (simp [*]; done)), (by first | rfl | (simp; done) | (simp [*]; done)), H', ⟨by have := HJ2.out; have := HK2.out; have := HJ14.out; have := HK4.out; have := HJ18.out; have := HJ26.out; omega⟩, ⟨by repeat (first | (with_reducible first | exact HB.out | apply below_alloc | apply pw_below_drewN | apply below_drew1 | refine below_set ?_ GE172.out) | exact HB.out)⟩⟩
                                                  · rw [if_neg c42] at H
                                                    exact absurd H (by simp)
                                                · rw [if_neg c41] at H
                                                  exact absurd H (by simp)
                                              · rw [if_neg c39] at H
                                                exact absurd H (by simp)
                                            · rw [if_neg c37] at H
                                              exact absurd H (by simp)
                                          · rw [if_neg c35] at H
                                            exact absurd H (by simp)
                                        · rw [if_neg c33] at H
                                          exact absurd H (by simp)
                                      · rw [if_neg c32] at H
                                        exact absurd H (by simp)
                                    · rw [if_neg c31] at H
                                      exact absurd H (by simp)
                                  · replace c30 := Bool.eq_false_iff.mpr c30
                                    subst c30
                                    have H1 : (vinculumref07_Put.l1 kj26 l0 a1 x9_18 x10_4 (wrap64 (x11_4 + 1))) = some (r1, r2, r3) := by rw [if_neg (show ¬ (false = true) by decide)] at H; exact H
                                    clear H
                                    have H := H1
                                    clear H1
                                    have H' := Aside0.mk H
                                    clear H
                                    go_wp2
                                    go_roundg kj26
                                    case measure => have := HJ2.out; have := HK2.out; have := HJ14.out; have := HK4.out; have := HJ18.out; have := HJ26.out; omega
                                    case rel => exact ⟨(x9_18), (x10_4), (wrap64 (x11_4 + 1)), (by first | rfl | (simp; done) | (simp [*]; done)), (by first | rfl | (simp; done) | (simp [*]; done)), (by first | rfl | (simp; done) | (simp [*]; done)), H', ⟨by have := HJ2.out; have := HK2.out; have := HJ14.out; have := HK4.out; have := HJ18.out; have := HJ26.out; omega⟩, ⟨by repeat (first | (with_reducible first | exact HB.out | apply below_alloc | apply pw_below_drewN | apply below_drew1) | exact HB.out)⟩⟩
                        · rw [if_neg c18] at H
                          have c18b0 : decide (x11_4 ≤ (l0.length : Int)) = false := decide_eq_false c18
                          clear c18
                          simp only [Option.some.injEq, Prod.mk.injEq] at H
                          obtain ⟨rfl, rfl, rfl⟩ := H
                          go_wp2
                          go_ret3
                          exact ⟨by first | rfl | (simp [errW_none, errW_some] <;> rfl) | (simp [*, errW_none, errW_some] <;> rfl), by repeat (first | (with_reducible first | exact HB.out | apply below_alloc | apply pw_below_drewN | apply below_drew1) | exact HB.out)⟩
def vinculumref07_Same.l0 : Nat → List (S30) → List (S30) → Int → Option (Bool)
  | 0, _, _, _ => none
  | k + 1, x0, x1, x5 => if x5 < (x0.length : Int) then (if 0 ≤ x5 then (if x5 < (x1.length : Int) then (if (!(((rd_T30 x0 x5).f0) == ((rd_T30 x1 x5).f0)) || (!(((rd_T30 x0 x5).f1) == ((rd_T30 x1 x5).f1)) || (!(((rd_T30 x0 x5).f2) == ((rd_T30 x1 x5).f2)) || (!(((rd_T30 x0 x5).f3) == ((rd_T30 x1 x5).f3)) || (!(((rd_T30 x0 x5).f4) == ((rd_T30 x1 x5).f4))))))) = true then (some false) else (vinculumref07_Same.l0 k x0 x1 (wrap64 (x5 + 1)))) else (none)) else (none)) else (some true)
def vinculumref07_Same.f (k : Nat) (l0 : List (S30)) (l1 : List (S30)) : Option (Bool) := if (l0.length : Int) = (l1.length : Int) then (vinculumref07_Same.l0 k l0 l1 0) else (some false)
theorem vinculumref07_Same.mono_l : ∀ k, (∀ y0 y1 y2, LeO (vinculumref07_Same.l0 k y0 y1 y2) (vinculumref07_Same.l0 (k + 1) y0 y1 y2))
  | 0 => fun _ _ _ r h => by simp [vinculumref07_Same.l0] at h
  | k + 1 => by
    have ih0 := vinculumref07_Same.mono_l k
    · intro y0 y1 y2
      unfold vinculumref07_Same.l0
      repeat' first
      | (with_reducible exact ih0 _ _ _)
      | (with_reducible exact LeO.refl _)
      | (with_reducible exact LeO.none _)
      | (with_reducible refine LeO.ite ?_ ?_)
      | (with_reducible refine LeO.bind ?_ (fun _ => ?_))
      | exact ih0 _ _ _
      | exact LeO.none _
      | refine LeO.ite ?_ ?_
      | refine LeO.bind ?_ (fun _ => ?_)
theorem vinculumref07_Same.mono : ∀ a0 a1 k, LeO (vinculumref07_Same.f k a0 a1) (vinculumref07_Same.f (k + 1) a0 a1) := by
  intro a0 a1 k
  have ih0 := vinculumref07_Same.mono_l k
  unfold vinculumref07_Same.f
  repeat' first
      | (with_reducible exact ih0 _ _ _)
      | (with_reducible exact LeO.refl _)
      | (with_reducible exact LeO.none _)
      | (with_reducible refine LeO.ite ?_ ?_)
      | (with_reducible refine LeO.bind ?_ (fun _ => ?_))
      | exact ih0 _ _ _
      | exact LeO.none _
      | refine LeO.ite ?_ ?_
      | refine LeO.bind ?_ (fun _ => ?_)
set_option maxHeartbeats 8000000 in
set_option maxRecDepth 100000 in
theorem vinculumref07_Same.calls (k : Nat) (A0 : Option Addr) (c0 : Nat) (l0 : List (S30)) (A1 : Option Addr) (c1 : Nat) (l1 : List (S30)) (r : Bool) (w : World) (hr0 : Kd.C k30 w A0 l0.length l0) (hc0 : l0.length ≤ c0) (hr1 : Kd.C k30 w A1 l1.length l1) (hc1 : l1.length ≤ c1) (h : vinculumref07_Same.f k l0 l1 = some r) :
    Calls Try.prog 14 #[.slice A0 l0.length c0, .slice A1 l1.length c1] w fun e w' => e = .returned (.bool r) ∧ Drawn0 w w' := by
  have hu30 := Try.underlying30
  have HR0 := Aside0.mk hr0
  have HC0 := Aside0.mk hc0
  clear hr0 hc0
  have HR1 := Aside0.mk hr1
  have HC1 := Aside0.mk hc1
  clear hr1 hc1
  have H : (if (l0.length : Int) = (l1.length : Int) then (vinculumref07_Same.l0 k l0 l1 0) else (some false)) = some r := h
  clear h
  by_cases c3 : (l0.length : Int) = (l1.length : Int)
  · rw [if_pos c3] at H
    have c3b0 : ((l0.length : Int) == (l1.length : Int)) = true := beq_iff_eq.mpr c3
    have c3b1 : ((l0.length : Int) != (l1.length : Int)) = false := bne_eq_false_iff_eq.mpr c3
    have c3b2 : (l0.length == l1.length) = true := by first | simpa using c3 | (simp at c3 ⊢; omega)
    clear c3
    have H' := Aside0.mk H
    clear H
    go_enter Try.func14, Try.ntmps14
    go_wp2
    repeat (go_quiet (fail); try go_wp2)
    go_loopg [5] k (fun kq v5 w' => ∃ (x5_1 : Int), v5 = .int .i64 x5_1 ∧ Aside0 (vinculumref07_Same.l0 kq l0 l1 x5_1 = some r) ∧ Aside0 (kq ≤ k) ∧ Drawn0 w w')
    case atStart => exact ⟨(0), (by first | rfl | (simp; done) | (simp [*]; done)), H', ⟨Nat.le_refl _⟩, by repeat (first | exact Drawn0.refl _ | apply Drawn0.step)⟩
    case round =>
      clear H'
      try clear c1
      try clear p2
      try clear c3
      try clear c3b0
      try clear c3b1
      try clear c3b2
      obtain ⟨x5_1, rfl, HA, HK1, ⟨m1, rfl⟩⟩ := hrel
      cases gk with
      | zero => exact absurd HA.out (by simp [vinculumref07_Same.l0])
      | succ k1 =>
        have H := HA.out
        clear HA
        simp only [vinculumref07_Same.l0] at H
        by_cases c4 : x5_1 < (l0.length : Int)
        · rw [if_pos c4] at H
          have c4b0 : decide (x5_1 < (l0.length : Int)) = true := decide_eq_true c4
          clear c4
          by_cases c5 : 0 ≤ x5_1
          · rw [if_pos c5] at H
            have c5b0 : decide (0 ≤ x5_1) = true := decide_eq_true c5
            clear c5
            by_cases c6 : x5_1 < (l1.length : Int)
            · rw [if_pos c6] at H
              have c6b0 : decide (x5_1 < (l1.length : Int)) = true := decide_eq_true c6
              clear c6
              by_cases c7 : (!(((rd_T30 l0 x5_1).f0) == ((rd_T30 l1 x5_1).f0)) || (!(((rd_T30 l0 x5_1).f1) == ((rd_T30 l1 x5_1).f1)) || (!(((rd_T30 l0 x5_1).f2) == ((rd_T30 l1 x5_1).f2)) || (!(((rd_T30 l0 x5_1).f3) == ((rd_T30 l1 x5_1).f3)) || (!(((rd_T30 l0 x5_1).f4) == ((rd_T30 l1 x5_1).f4))))))) = true
              · rw [if_pos c7] at H
                have c7b0 : (!(((rd_T30 l0 x5_1).f0) == ((rd_T30 l1 x5_1).f0)) || (!(((rd_T30 l0 x5_1).f1) == ((rd_T30 l1 x5_1).f1)) || (!(((rd_T30 l0 x5_1).f2) == ((rd_T30 l1 x5_1).f2)) || (!(((rd_T30 l0 x5_1).f3) == ((rd_T30 l1 x5_1).f3)) || (!(((rd_T30 l0 x5_1).f4) == ((rd_T30 l1 x5_1).f4))))))) = true := c7
                clear c7
                obtain rfl := Option.some.inj H
                have p177 : 0 ≤ (x5_1 : Int) := of_decide_eq_true (by first | (with_reducible assumption) | assumption)
                have q177 : x5_1 < (l0.length : Int) := of_decide_eq_true (by first | (with_reducible assumption) | assumption)
                obtain ⟨ad177, e177, hx177_0, hx177_1, hx177_2, hx177_3, hx177_4⟩ := at_T30 HR0.out x5_1 p177 q177
                cases e177
                replace p177 := eq_true p177
                replace q177 := eq_true q177
                have p178 : 0 ≤ (x5_1 : Int) := of_decide_eq_true (by first | (with_reducible assumption) | assumption)
                have q178 : x5_1 < (l1.length : Int) := of_decide_eq_true (by first | (with_reducible assumption) | assumption)
                obtain ⟨ad178, e178, hx178_0, hx178_1, hx178_2, hx178_3, hx178_4⟩ := at_T30 HR1.out x5_1 p178 q178
                cases e178
                replace p178 := eq_true p178
                replace q178 := eq_true q178
                go_wp2
                repeat (go_quiet (fail); try go_wp2)
                go_ret
                exact ⟨by first | rfl | (simp; done) | (simp [*]; done), by repeat (first | exact Drawn0.refl _ | apply Drawn0.step)⟩
              · rw [if_neg c7] at H
                have c7b0 : (!(((rd_T30 l0 x5_1).f0) == ((rd_T30 l1 x5_1).f0)) || (!(((rd_T30 l0 x5_1).f1) == ((rd_T30 l1 x5_1).f1)) || (!(((rd_T30 l0 x5_1).f2) == ((rd_T30 l1 x5_1).f2)) || (!(((rd_T30 l0 x5_1).f3) == ((rd_T30 l1 x5_1).f3)) || (!(((rd_T30 l0 x5_1).f4) == ((rd_T30 l1 x5_1).f4))))))) = false := by simpa using c7
                clear c7
                have H' := Aside0.mk H
                clear H
                have p177 : 0 ≤ (x5_1 : Int) := of_decide_eq_true (by first | (with_reducible assumption) | assumption)
                have q177 : x5_1 < (l0.length : Int) := of_decide_eq_true (by first | (with_reducible assumption) | assumption)
                obtain ⟨ad177, e177, hx177_0, hx177_1, hx177_2, hx177_3, hx177_4⟩ := at_T30 HR0.out x5_1 p177 q177
                cases e177
                replace p177 := eq_true p177
                replace q177 := eq_true q177
                have p178 : 0 ≤ (x5_1 : Int) := of_decide_eq_true (by first | (with_reducible assumption) | assumption)
                have q178 : x5_1 < (l1.length : Int) := of_decide_eq_true (by first | (with_reducible assumption) | assumption)
                obtain ⟨ad178, e178, hx178_0, hx178_1, hx178_2, hx178_3, hx178_4⟩ := at_T30 HR1.out x5_1 p178 q178
                cases e178
                replace p178 := eq_true p178
                replace q178 := eq_true q178
                go_wp2
                repeat (go_quiet (fail); try go_wp2)
                go_roundg k1
                case measure => have := HK1.out; omega
                case rel => exact ⟨(wrap64 (x5_1 + 1)), (by first | rfl | (simp; done) | (simp [*]; done)), H', ⟨by have := HK1.out; omega⟩, by repeat (first | exact Drawn0.refl _ | apply Drawn0.step)⟩
            · rw [if_neg c6] at H
              exact absurd H (by simp)
          · rw [if_neg c5] at H
            exact absurd H (by simp)
        · rw [if_neg c4] at H
          have c4b0 : decide (x5_1 < (l0.length : Int)) = false := decide_eq_false c4
          clear c4
          obtain rfl := Option.some.inj H
          go_wp2
          repeat (go_quiet (fail); try go_wp2)
          go_ret
          exact ⟨by first | rfl | (simp; done) | (simp [*]; done), by repeat (first | exact Drawn0.refl _ | apply Drawn0.step)⟩
  · rw [if_neg c3] at H
    have c3b0 : ((l0.length : Int) == (l1.length : Int)) = false := beq_eq_false_iff_ne.mpr c3
    have c3b1 : ((l0.length : Int) != (l1.length : Int)) = true := bne_iff_ne.mpr c3
    have c3b2 : (l0.length == l1.length) = false := by first | simpa using c3 | (simp at c3 ⊢; omega)
    obtain rfl := Option.some.inj H
    go_enter Try.func14, Try.ntmps14
    go_wp2
    repeat (go_quiet (fail); try go_wp2)
    go_ret
    exact ⟨by first | rfl | (simp; done) | (simp [*]; done), by repeat (first | exact Drawn0.refl _ | apply Drawn0.step)⟩
end Go.Proofs.Ytjmliafplgjkhaa.P
