/- A part of the proof of the law GlyfDeep: the words, contracts and plain facts that it needs, no more. Each says its own condition. -/
import Derived.Test.YtjmliafplgjkhaaZGlyfDeepi
import Derived.Lib.Hide
import Derived.Deep.WholeRow
section
namespace Go.Proofs.Ytjmliafplgjkhaa.P
open Go.RowKit Go.Proofs.YtjmliafplgjkhaaW.PrintWords Go.Proofs.YtjmliafplgjkhaaW.PrintLast Go.Proofs.YtjmliafplgjkhaaW.PrintMore
set_option linter.unusedSimpArgs false
set_option linter.unusedVariables false
def chk1 (a : Int) : Bool := decide (a ≥ 16) && decide (a ≤ 16384)
def chk2 (b : Int) : Bool := decide (b ≥ 1) && decide (b ≤ 65535)
def chk3 (b c : Int) : Bool := decide (c ≥ 1) && decide (c ≤ b)
def chk4 (d e : Int) : Bool := (decide (d ≥ -32768) && decide (d < 32768)) && (decide (e ≥ -32768) && decide (e < 32768))
def headN (a b c d e : Int) : Bool := chk1 a && (chk2 b && (chk3 b c && chk4 d e))
theorem small_calls (n : Int) (w : World) : Calls Try.prog 31 #[.int .i64 n] w fun e w' => e = .returned (.bool (decide (n ≥ -32768) && decide (n < 32768))) ∧ w' = w := by
  by_cases h : n ≥ -32768
  · have d1 : decide (-32768 ≤ n) = true := decide_eq_true h
    have e : (decide (n ≥ -32768) && decide (n < 32768)) = decide (n < 32768) := by rw [show decide (n ≥ -32768) = true from decide_eq_true h]; rfl
    rw [e]
    clear h e
    go_enter Try.func31, Try.ntmps31
    go_wp2
    go_ret
    exact ⟨rfl, rfl⟩
  · have d1 : decide (-32768 ≤ n) = false := decide_eq_false h
    have e : (decide (n ≥ -32768) && decide (n < 32768)) = false := by rw [show decide (n ≥ -32768) = false from decide_eq_false h]; rfl
    rw [e]
    clear h e
    go_enter Try.func31, Try.ntmps31
    go_wp2
    go_ret
    exact ⟨rfl, rfl⟩
theorem chk1_calls (a b c d e : Int) (f : Bool) (w : World) : Calls Try.prog 32 #[.agg #[.int .i64 a, .int .i64 b, .int .i64 c, .int .i64 d, .int .i64 e, .bool f]] w fun x w' => x = .returned (.bool (chk1 a)) ∧ Below w.heap.size w w' := by
  have hz := (zero_of_info (P := Try.prog) (t := 37) (v := .agg #[.int .i64 0, .int .i64 0, .int .i64 0, .int .i64 0, .int .i64 0, .bool false]) (n := 6) (by kernel_rfl)).1
  by_cases h : a ≥ 16
  · have d1 : decide (16 ≤ a) = true := decide_eq_true h
    have e : chk1 a = decide (a ≤ 16384) := by unfold chk1; rw [show decide (a ≥ 16) = true from decide_eq_true h]; rfl
    rw [e]
    clear h e
    go_enter Try.func32, Try.ntmps32
    go_wp2
    go_ret
    exact ⟨rfl, (Below.refl _ _).alloc (Nat.le_refl _) _⟩
  · have d1 : decide (16 ≤ a) = false := decide_eq_false h
    have e : chk1 a = false := by unfold chk1; rw [show decide (a ≥ 16) = false from decide_eq_false h]; rfl
    rw [e]
    clear h e
    go_enter Try.func32, Try.ntmps32
    go_wp2
    go_ret
    exact ⟨rfl, (Below.refl _ _).alloc (Nat.le_refl _) _⟩
theorem chk2_calls (a b c d e : Int) (f : Bool) (w : World) : Calls Try.prog 33 #[.agg #[.int .i64 a, .int .i64 b, .int .i64 c, .int .i64 d, .int .i64 e, .bool f]] w fun x w' => x = .returned (.bool (chk2 b)) ∧ Below w.heap.size w w' := by
  by_cases h : b ≥ 1
  · have d1 : decide (1 ≤ b) = true := decide_eq_true h
    have e : chk2 b = decide (b ≤ 65535) := by unfold chk2; rw [show decide (b ≥ 1) = true from decide_eq_true h]; rfl
    rw [e]
    clear h e
    go_enter Try.func33, Try.ntmps33
    go_wp2
    go_ret
    exact ⟨rfl, (Below.refl _ _).alloc (Nat.le_refl _) _⟩
  · have d1 : decide (1 ≤ b) = false := decide_eq_false h
    have e : chk2 b = false := by unfold chk2; rw [show decide (b ≥ 1) = false from decide_eq_false h]; rfl
    rw [e]
    clear h e
    go_enter Try.func33, Try.ntmps33
    go_wp2
    go_ret
    exact ⟨rfl, (Below.refl _ _).alloc (Nat.le_refl _) _⟩
theorem chk3_calls (a b c d e : Int) (f : Bool) (w : World) : Calls Try.prog 34 #[.agg #[.int .i64 a, .int .i64 b, .int .i64 c, .int .i64 d, .int .i64 e, .bool f]] w fun x w' => x = .returned (.bool (chk3 b c)) ∧ Below w.heap.size w w' := by
  by_cases h : c ≥ 1
  · have d1 : decide (1 ≤ c) = true := decide_eq_true h
    have e : chk3 b c = decide (c ≤ b) := by unfold chk3; rw [show decide (c ≥ 1) = true from decide_eq_true h]; rfl
    rw [e]
    clear h e
    go_enter Try.func34, Try.ntmps34
    go_wp2
    go_ret
    exact ⟨rfl, (Below.refl _ _).alloc (Nat.le_refl _) _⟩
  · have d1 : decide (1 ≤ c) = false := decide_eq_false h
    have e : chk3 b c = false := by unfold chk3; rw [show decide (c ≥ 1) = false from decide_eq_false h]; rfl
    rw [e]
    clear h e
    go_enter Try.func34, Try.ntmps34
    go_wp2
    go_ret
    exact ⟨rfl, (Below.refl _ _).alloc (Nat.le_refl _) _⟩
theorem chk4_calls (a b c d e : Int) (f : Bool) (s : Nat) (w : World) (hs : w.cell? ⟨s, 0, none⟩ = some (.func (.func 31) #[] #[])) :
    Calls Try.prog 35 #[.agg #[.int .i64 a, .int .i64 b, .int .i64 c, .int .i64 d, .int .i64 e, .bool f], .pointer (some ⟨s, 0, none⟩)] w fun x w' => x = .returned (.bool (chk4 d e)) ∧ Below w.heap.size w w' := by
  have hs2 : ∀ o, (w.alloc o).cell? ⟨s, 0, none⟩ = some (.func (.func 31) #[] #[]) := fun o => (((Below.refl _ w).alloc (Nat.le_refl _) o).cell (World.block_lt_of_cell? _ _ hs)).trans hs
  have hs1 := hs2 (.cells #[.int .i64 a, .int .i64 b, .int .i64 c, .int .i64 d, .int .i64 e, .bool f] 37)
  cases hd : (decide (d ≥ -32768) && decide (d < 32768)) with
  | true =>
    have HE := Lib.hid (show chk4 d e = (decide (e ≥ -32768) && decide (e < 32768)) by unfold chk4; rw [hd]; rfl)
    have HD := Lib.hid hd
    rw [HE.out]
    clear hd hs2 hs
    go_enter Try.func35, Try.ntmps35
    go_wp2_with fail
    refine (small_calls d _).mono ?_
    rintro x w1 ⟨rfl, rfl⟩
    rw [HD.out]
    go_wp2_with fail
    refine (small_calls e _).mono ?_
    rintro x w1 ⟨rfl, rfl⟩
    go_wp2
    go_ret
    exact ⟨rfl, (Below.refl _ _).alloc (Nat.le_refl _) _⟩
  | false =>
    have HE := Lib.hid (show chk4 d e = false by unfold chk4; rw [hd]; rfl)
    have HD := Lib.hid hd
    rw [HE.out]
    clear hd hs2 hs
    go_enter Try.func35, Try.ntmps35
    go_wp2_with fail
    refine (small_calls d _).mono ?_
    rintro x w1 ⟨rfl, rfl⟩
    rw [HD.out]
    go_wp2
    go_ret
    exact ⟨rfl, (Below.refl _ _).alloc (Nat.le_refl _) _⟩
theorem run_store_func (P : Program) (w : World) (a : Addr) (g : Fn) (x y : Array Value) (m : Mode) : (store a (.func g x y) m).run P w = stored P w a (.func g x y) m := run_store P w a _ m rfl
attribute [local go_sem] run_store_func
theorem head_begins (a b c d e : Int) (f : Bool) (w w0 : World) (hw : w0 = ((w.alloc (.cells #[.int .i64 a, .int .i64 b, .int .i64 c, .int .i64 d, .int .i64 e, .bool f] 37)).alloc (.cells #[.func (.func 31) #[] #[]] 65))) :
    w0.cell? ⟨w.heap.size, 0, none⟩ = some (.int .i64 a) ∧ w0.cell? ⟨w.heap.size, 1, none⟩ = some (.int .i64 b) ∧ w0.cell? ⟨w.heap.size, 2, none⟩ = some (.int .i64 c) ∧ w0.cell? ⟨w.heap.size, 3, none⟩ = some (.int .i64 d) ∧ w0.cell? ⟨w.heap.size, 4, none⟩ = some (.int .i64 e) ∧ w0.cell? ⟨w.heap.size, 5, none⟩ = some (.bool f) ∧ w0.cell? ⟨w.heap.size + 1, 0, none⟩ = some (.func (.func 31) #[] #[]) ∧ Below w.heap.size w w0 := by
  subst hw
  exact ⟨by simp [go_sem], by simp [go_sem], by simp [go_sem], by simp [go_sem], by simp [go_sem], by simp [go_sem], by simp [go_sem], ((Below.refl _ w).alloc (Nat.le_refl _) _).alloc (by simp) _⟩
theorem idx0 (f1 f2 f3 f4 : Value) (w : World) : (Instr.index 68 (.agg #[f1, f2, f3, f4]) (.int .i64 0)).run Try.prog w = .ok (.agg #[f1]) w := by rfl
theorem idx1 (f1 f2 f3 f4 : Value) (w : World) : (Instr.index 68 (.agg #[f1, f2, f3, f4]) (.int .i64 1)).run Try.prog w = .ok (.agg #[f2]) w := by rfl
theorem idx2 (f1 f2 f3 f4 : Value) (w : World) : (Instr.index 68 (.agg #[f1, f2, f3, f4]) (.int .i64 2)).run Try.prog w = .ok (.agg #[f3]) w := by rfl
theorem idx3 (f1 f2 f3 f4 : Value) (w : World) : (Instr.index 68 (.agg #[f1, f2, f3, f4]) (.int .i64 3)).run Try.prog w = .ok (.agg #[f4]) w := by rfl
attribute [local go_sem] idx0 idx1 idx2 idx3
def restN (a b c d e : Int) : Nat → Bool
  | 0 => chk1 a && (chk2 b && (chk3 b c && chk4 d e))
  | 1 => chk2 b && (chk3 b c && chk4 d e)
  | 2 => chk3 b c && chk4 d e
  | 3 => chk4 d e && true
  | _ => true
set_option maxHeartbeats 2000000 in
theorem headIs_walk (a b c d e : Int) (f : Bool) (w : World) : Calls Try.prog 16 #[.agg #[.int .i64 a, .int .i64 b, .int .i64 c, .int .i64 d, .int .i64 e, .bool f]] w fun x w' => x = .returned (.bool (headN a b c d e)) ∧ Below w.heap.size w w' := by
  have hz := (zero_of_info (P := Try.prog) (t := 67) (v := .agg #[.nilFunc]) (n := 1) (by kernel_rfl)).1
  go_enter Try.func16, Try.ntmps16
  go_wp2_with fail
  obtain ⟨w0, hw0⟩ : ∃ w0, w0 = ((w.alloc (.cells #[.int .i64 a, .int .i64 b, .int .i64 c, .int .i64 d, .int .i64 e, .bool f] 37)).alloc (.cells #[.func (.func 31) #[] #[]] 65)) := ⟨_, rfl⟩
  rw [← hw0]
  obtain ⟨g0, g1, g2, g3, g4, g5, g6, g7⟩ := head_begins a b c d e f w w0 hw0
  have H0 := Lib.hid g0
  have H1 := Lib.hid g1
  have H2 := Lib.hid g2
  have H3 := Lib.hid g3
  have H4 := Lib.hid g4
  have H5 := Lib.hid g5
  have H6 := Lib.hid g6
  have H0B := Lib.hid g7
  clear g0 g1 g2 g3 g4 g5 g6 g7 hw0
  go_loopw [12] (fun v12 wr => ∃ i : Nat, i ≤ 4 ∧ v12 = .int .i64 (i : Int) ∧ Aside0 (headN a b c d e = restN a b c d e i) ∧ Aside0 (Below w0.heap.size w0 wr)) (fun v12 _ => 4 - (intOf v12).toNat)
  case atStart => exact ⟨0, by decide, rfl, ⟨rfl⟩, ⟨Below.refl _ _⟩⟩
  case round =>
    obtain ⟨i, hi, rfl, HR, HB⟩ := hrel
    have b0 := (HB.out.cell (World.block_lt_of_cell? _ _ H0.out)).trans H0.out
    have b1 := (HB.out.cell (World.block_lt_of_cell? _ _ H1.out)).trans H1.out
    have b2 := (HB.out.cell (World.block_lt_of_cell? _ _ H2.out)).trans H2.out
    have b3 := (HB.out.cell (World.block_lt_of_cell? _ _ H3.out)).trans H3.out
    have b4 := (HB.out.cell (World.block_lt_of_cell? _ _ H4.out)).trans H4.out
    have b5 := (HB.out.cell (World.block_lt_of_cell? _ _ H5.out)).trans H5.out
    have h6 := (HB.out.cell (World.block_lt_of_cell? _ _ H6.out)).trans H6.out
    have hi5 : i = 0 ∨ i = 1 ∨ i = 2 ∨ i = 3 ∨ i = 4 := by omega
    have al : ∀ (o : Obj) (p : Addr) (v : Value), wr.cell? p = some v → (wr.alloc o).cell? p = some v := fun o p v h => (((Below.refl _ wr).alloc (Nat.le_refl _) o).cell (World.block_lt_of_cell? _ _ h)).trans h
    have HLT := Lib.hid (show w0.heap.size ≤ wr.heap.size from HB.out.size)
    clear hi
    rcases hi5 with rfl | rfl | rfl | rfl | rfl
    · skip
      cases hc : chk1 a with
      | true =>
        have HC := Lib.hid hc
        have HR2 := Lib.hid (show headN a b c d e = restN a b c d e 1 by rw [HR.out]; simp [restN, hc])
        clear hc
        go_wp2_with fail
        refine (chk1_calls a b c d e f _).mono ?_
        rintro x w1 ⟨rfl, hb⟩
        have HB2 := Lib.hid ((HB.out.alloc HB.out.size _).trans (hb.mono (by have := HLT.out; simp; omega)))
        rw [HC.out]
        clear hb
        go_wp2
        go_roundw
        case rel => exact ⟨1, by decide, rfl, ⟨HR2.out⟩, ⟨HB2.out⟩⟩
        case measure => decide
      | false =>
        have HC := Lib.hid hc
        have HR2 := Lib.hid (show headN a b c d e = false by rw [HR.out]; simp [restN, hc])
        clear hc
        go_wp2_with fail
        refine (chk1_calls a b c d e f _).mono ?_
        rintro x w1 ⟨rfl, hb⟩
        have HB2 := Lib.hid ((HB.out.alloc HB.out.size _).trans (hb.mono (by have := HLT.out; simp; omega)))
        rw [HC.out]
        clear hb
        go_wp2
        go_ret
        rw [HR2.out]
        exact ⟨rfl, H0B.out.trans (HB2.out.mono H0B.out.size)⟩
    · skip
      cases hc : chk2 b with
      | true =>
        have HC := Lib.hid hc
        have HR2 := Lib.hid (show headN a b c d e = restN a b c d e 2 by rw [HR.out]; simp [restN, hc])
        clear hc
        go_wp2_with fail
        refine (chk2_calls a b c d e f _).mono ?_
        rintro x w1 ⟨rfl, hb⟩
        have HB2 := Lib.hid ((HB.out.alloc HB.out.size _).trans (hb.mono (by have := HLT.out; simp; omega)))
        rw [HC.out]
        clear hb
        go_wp2
        go_roundw
        case rel => exact ⟨2, by decide, rfl, ⟨HR2.out⟩, ⟨HB2.out⟩⟩
        case measure => decide
      | false =>
        have HC := Lib.hid hc
        have HR2 := Lib.hid (show headN a b c d e = false by rw [HR.out]; simp [restN, hc])
        clear hc
        go_wp2_with fail
        refine (chk2_calls a b c d e f _).mono ?_
        rintro x w1 ⟨rfl, hb⟩
        have HB2 := Lib.hid ((HB.out.alloc HB.out.size _).trans (hb.mono (by have := HLT.out; simp; omega)))
        rw [HC.out]
        clear hb
        go_wp2
        go_ret
        rw [HR2.out]
        exact ⟨rfl, H0B.out.trans (HB2.out.mono H0B.out.size)⟩
    · skip
      cases hc : chk3 b c with
      | true =>
        have HC := Lib.hid hc
        have HR2 := Lib.hid (show headN a b c d e = restN a b c d e 3 by rw [HR.out]; simp [restN, hc])
        clear hc
        go_wp2_with fail
        refine (chk3_calls a b c d e f _).mono ?_
        rintro x w1 ⟨rfl, hb⟩
        have HB2 := Lib.hid ((HB.out.alloc HB.out.size _).trans (hb.mono (by have := HLT.out; simp; omega)))
        rw [HC.out]
        clear hb
        go_wp2
        go_roundw
        case rel => exact ⟨3, by decide, rfl, ⟨HR2.out⟩, ⟨HB2.out⟩⟩
        case measure => decide
      | false =>
        have HC := Lib.hid hc
        have HR2 := Lib.hid (show headN a b c d e = false by rw [HR.out]; simp [restN, hc])
        clear hc
        go_wp2_with fail
        refine (chk3_calls a b c d e f _).mono ?_
        rintro x w1 ⟨rfl, hb⟩
        have HB2 := Lib.hid ((HB.out.alloc HB.out.size _).trans (hb.mono (by have := HLT.out; simp; omega)))
        rw [HC.out]
        clear hb
        go_wp2
        go_ret
        rw [HR2.out]
        exact ⟨rfl, H0B.out.trans (HB2.out.mono H0B.out.size)⟩
    · skip
      cases hc : chk4 d e with
      | true =>
        have HC := Lib.hid hc
        have HR2 := Lib.hid (show headN a b c d e = restN a b c d e 4 by rw [HR.out]; simp [restN, hc])
        clear hc
        go_wp2_with fail
        refine (chk4_calls a b c d e f (w.heap.size + 1) _ (al _ _ _ h6)).mono ?_
        rintro x w1 ⟨rfl, hb⟩
        have HB2 := Lib.hid ((HB.out.alloc HB.out.size _).trans (hb.mono (by have := HLT.out; simp; omega)))
        rw [HC.out]
        clear hb
        go_wp2
        go_roundw
        case rel => exact ⟨4, by decide, rfl, ⟨HR2.out⟩, ⟨HB2.out⟩⟩
        case measure => decide
      | false =>
        have HC := Lib.hid hc
        have HR2 := Lib.hid (show headN a b c d e = false by rw [HR.out]; simp [restN, hc])
        clear hc
        go_wp2_with fail
        refine (chk4_calls a b c d e f (w.heap.size + 1) _ (al _ _ _ h6)).mono ?_
        rintro x w1 ⟨rfl, hb⟩
        have HB2 := Lib.hid ((HB.out.alloc HB.out.size _).trans (hb.mono (by have := HLT.out; simp; omega)))
        rw [HC.out]
        clear hb
        go_wp2
        go_ret
        rw [HR2.out]
        exact ⟨rfl, H0B.out.trans (HB2.out.mono H0B.out.size)⟩
    · have HR2 := Lib.hid (show headN a b c d e = true by rw [HR.out]; rfl)
      go_wp2
      go_ret
      rw [HR2.out]
      exact ⟨rfl, H0B.out.trans (HB.out.mono H0B.out.size)⟩
def head_Is.f (a0_0 a0_1 a0_2 a0_3 a0_4 : Int) (a0_5 : Bool) : Option Bool := some (headN a0_0 a0_1 a0_2 a0_3 a0_4)
theorem head_Is.calls (a0_0 : Int) (a0_1 : Int) (a0_2 : Int) (a0_3 : Int) (a0_4 : Int) (a0_5 : Bool) (r : Bool) (w : World) (h : head_Is.f a0_0 a0_1 a0_2 a0_3 a0_4 a0_5 = some r) :
    Calls Try.prog 16 #[.agg #[.int .i64 a0_0, .int .i64 a0_1, .int .i64 a0_2, .int .i64 a0_3, .int .i64 a0_4, .bool a0_5]] w fun e w' => e = .returned (.bool r) ∧ Below w.heap.size w w' := by
  have := Option.some.inj h
  subst this
  exact headIs_walk a0_0 a0_1 a0_2 a0_3 a0_4 a0_5 w
end Go.Proofs.Ytjmliafplgjkhaa.P
end
section
namespace Go.Proofs.Ytjmliafplgjkhaa.P
open Go.RowKit Go.Proofs.YtjmliafplgjkhaaW.PrintWords Go.Proofs.YtjmliafplgjkhaaW.PrintLast Go.Proofs.YtjmliafplgjkhaaW.PrintMore
attribute [local go_sem] max2_int min2_int max_two min_two max_three min_three max_four min_four
set_option linter.unusedVariables false
set_option linter.unusedSimpArgs false
def glyf_High.j0 : Nat → List (S30) → Int → Bool → Int → Int → Int → Int → Int → Bool → Option (Int × Int × Int)
  | 0, _, _, _, _, _, _, _, _, _ => none
  | k + 1, x1, x2, x13, x180000, x180001, x180002, x180003, x180004, x180005 => if x13 = true then (some (0, 0, 10)) else (if (x1.length : Int) = 0 then (some (x180003, wrap64 (-x180004), 0)) else (if 0 ≤ x2 then (if x2 < (x1.length : Int) then (some ((rd_T30 x1 x2).f4, wrap64 (-((rd_T30 x1 x2).f2)), 0)) else (none)) else (none)))
def glyf_High.f (k : Nat) (a0_0 : Int) (a0_1 : Int) (a0_2 : Int) (a0_3 : Int) (a0_4 : Int) (a0_5 : Bool) (l1 : List (S30)) (a2 : Int) : Option (Int × Int × Int) := (head_Is.f a0_0 a0_1 a0_2 a0_3 a0_4 a0_5).bind fun t180 => (if t180 = true then (if a2 < 0 then (glyf_High.j0 k l1 a2 true a0_0 a0_1 a0_2 a0_3 a0_4 a0_5) else (if a2 ≥ a0_1 then (glyf_High.j0 k l1 a2 true a0_0 a0_1 a0_2 a0_3 a0_4 a0_5) else (if (l1.length : Int) > 0 then (glyf_High.j0 k l1 a2 (decide (a2 ≥ (l1.length : Int))) a0_0 a0_1 a0_2 a0_3 a0_4 a0_5) else (glyf_High.j0 k l1 a2 false a0_0 a0_1 a0_2 a0_3 a0_4 a0_5)))) else (some (0, 0, 1)))
theorem glyf_High.mono_l : ∀ k, (∀ y0 y1 y2 y3 y4 y5 y6 y7 y8, LeO (glyf_High.j0 k y0 y1 y2 y3 y4 y5 y6 y7 y8) (glyf_High.j0 (k + 1) y0 y1 y2 y3 y4 y5 y6 y7 y8))
  | 0 => fun _ _ _ _ _ _ _ _ _ r h => by simp [glyf_High.j0] at h
  | k + 1 => by
    have ih0 := glyf_High.mono_l k
    · intro y0 y1 y2 y3 y4 y5 y6 y7 y8
      unfold glyf_High.j0
      repeat' first
      | (with_reducible exact ih0 _ _ _ _ _ _ _ _ _)
      | (with_reducible exact LeO.refl _)
      | (with_reducible exact LeO.none _)
      | (with_reducible refine LeO.ite ?_ ?_)
      | (with_reducible refine LeO.bind ?_ (fun _ => ?_))
      | exact ih0 _ _ _ _ _ _ _ _ _
      | exact LeO.none _
      | refine LeO.ite ?_ ?_
      | refine LeO.bind ?_ (fun _ => ?_)
theorem glyf_High.mono : ∀ a0 a1 a2 a3 a4 a5 a6 a7 k, LeO (glyf_High.f k a0 a1 a2 a3 a4 a5 a6 a7) (glyf_High.f (k + 1) a0 a1 a2 a3 a4 a5 a6 a7) := by
  intro a0 a1 a2 a3 a4 a5 a6 a7 k
  have ih0 := glyf_High.mono_l k
  unfold glyf_High.f
  repeat' first
      | (with_reducible exact ih0 _ _ _ _ _ _ _ _ _)
      | (with_reducible exact LeO.refl _)
      | (with_reducible exact LeO.none _)
      | (with_reducible refine LeO.ite ?_ ?_)
      | (with_reducible refine LeO.bind ?_ (fun _ => ?_))
      | exact ih0 _ _ _ _ _ _ _ _ _
      | exact LeO.none _
      | refine LeO.ite ?_ ?_
      | refine LeO.bind ?_ (fun _ => ?_)
set_option maxHeartbeats 8000000 in
set_option maxRecDepth 100000 in
theorem glyf_High.calls (k : Nat) (a0_0 : Int) (a0_1 : Int) (a0_2 : Int) (a0_3 : Int) (a0_4 : Int) (a0_5 : Bool) (A1 : Option Addr) (c1 : Nat) (l1 : List (S30)) (a2 : Int) (r1 : Int) (r2 : Int) (r3 : Int) (w : World) (hr1 : Kd.C k30 w A1 l1.length l1) (hc1 : l1.length ≤ c1) (h : glyf_High.f k a0_0 a0_1 a0_2 a0_3 a0_4 a0_5 l1 a2 = some (r1, r2, r3)) :
    Calls Try.prog 15 #[.agg #[.int .i64 a0_0, .int .i64 a0_1, .int .i64 a0_2, .int .i64 a0_3, .int .i64 a0_4, .bool a0_5], .slice A1 l1.length c1, .int .i64 a2] w fun e w' => e = .returned (.tuple #[.int .i64 r1, .int .i64 r2, .int .i64 r3]) ∧ Below w.heap.size w w' := by
  have hu37 := Try.underlying37
  have HR1 := Aside0.mk hr1
  have HC1 := Aside0.mk hc1
  clear hr1 hc1
  have HB := Aside0.mk (Below.refl w.heap.size w)
  have H : ((head_Is.f a0_0 a0_1 a0_2 a0_3 a0_4 a0_5).bind fun t180 => (if t180 = true then (if a2 < 0 then (glyf_High.j0 k l1 a2 true a0_0 a0_1 a0_2 a0_3 a0_4 a0_5) else (if a2 ≥ a0_1 then (glyf_High.j0 k l1 a2 true a0_0 a0_1 a0_2 a0_3 a0_4 a0_5) else (if (l1.length : Int) > 0 then (glyf_High.j0 k l1 a2 (decide (a2 ≥ (l1.length : Int))) a0_0 a0_1 a0_2 a0_3 a0_4 a0_5) else (glyf_High.j0 k l1 a2 false a0_0 a0_1 a0_2 a0_3 a0_4 a0_5)))) else (some (0, 0, 1)))) = some (r1, r2, r3) := h
  clear h
  replace H := Option.bind_eq_some_iff.mp H
  obtain ⟨t180, A40, H⟩ := H
  replace H : (if t180 = true then (if a2 < 0 then (glyf_High.j0 k l1 a2 true a0_0 a0_1 a0_2 a0_3 a0_4 a0_5) else (if a2 ≥ a0_1 then (glyf_High.j0 k l1 a2 true a0_0 a0_1 a0_2 a0_3 a0_4 a0_5) else (if (l1.length : Int) > 0 then (glyf_High.j0 k l1 a2 (decide (a2 ≥ (l1.length : Int))) a0_0 a0_1 a0_2 a0_3 a0_4 a0_5) else (glyf_High.j0 k l1 a2 false a0_0 a0_1 a0_2 a0_3 a0_4 a0_5)))) else (some (0, 0, 1))) = some (r1, r2, r3) := H
  have A4 := Aside0.mk A40
  clear A40
  by_cases c5 : t180 = true
  · subst c5
    have H1 : (if a2 < 0 then (glyf_High.j0 k l1 a2 true a0_0 a0_1 a0_2 a0_3 a0_4 a0_5) else (if a2 ≥ a0_1 then (glyf_High.j0 k l1 a2 true a0_0 a0_1 a0_2 a0_3 a0_4 a0_5) else (if (l1.length : Int) > 0 then (glyf_High.j0 k l1 a2 (decide (a2 ≥ (l1.length : Int))) a0_0 a0_1 a0_2 a0_3 a0_4 a0_5) else (glyf_High.j0 k l1 a2 false a0_0 a0_1 a0_2 a0_3 a0_4 a0_5)))) = some (r1, r2, r3) := by rw [if_pos rfl] at H; exact H
    clear H
    have H := H1
    clear H1
    have HC6 := Aside0.mk H
    clear H
    go_enter Try.func15, Try.ntmps15
    go_upto_region 3 with (first | ((with_reducible refine gate_dst (N := 3) rfl ?_); (try (refine gate_guard (by rfl) ?_; dsimp only)); refine box_event ?hg (N := 3) ?hd (cs := #[.int .i64 a0_0, .int .i64 a0_1, .int .i64 a0_2, .int .i64 a0_3, .int .i64 a0_4, .bool a0_5]) (t := 37) ?hr ?_; (case hd => rfl); (case hg => rfl); (case hr => first | (go_simp; done) | (go_simp; rfl)); intro gb179 hg w7 hbox hb; have n0_ := Aside0.mk (below_step (by repeat (first | (with_reducible first | exact HB.out | apply below_alloc | apply pw_below_drewN | apply below_drew1) | exact HB.out)) hb); have n1_ := Aside0.mk (hbox); have n2_ := Aside0.mk ((by rw [hg]; exact (below_size (by repeat (first | (with_reducible first | exact HB.out | apply below_alloc | apply pw_below_drewN | apply below_drew1) | exact HB.out))) : w.heap.size ≤ gb179)); have n3_ := Aside0.mk ((by rw [hg]; exact (below_size (by repeat (first | (with_reducible first | exact HB.out | apply below_alloc | apply pw_below_drewN | apply below_drew1) | exact HB.out))) : w.heap.size ≤ gb179)); clear HB; have HB := n0_; have BK179 := n1_; have GW179 := n2_; have GE179 := n3_; clear n0_ n1_ n2_ n3_; clear hb hbox hg; have hcz8_0 : w7.cell? ⟨gb179, 0, none⟩ = some (.int .i64 a0_0) := (blk_cell BK179.out 0).trans rfl; have hcz8_1 : w7.cell? ⟨gb179, 1, none⟩ = some (.int .i64 a0_1) := (blk_cell BK179.out 1).trans rfl; have hcz8_2 : w7.cell? ⟨gb179, 2, none⟩ = some (.int .i64 a0_2) := (blk_cell BK179.out 2).trans rfl; have hcz8_3 : w7.cell? ⟨gb179, 3, none⟩ = some (.int .i64 a0_3) := (blk_cell BK179.out 3).trans rfl; have hcz8_4 : w7.cell? ⟨gb179, 4, none⟩ = some (.int .i64 a0_4) := (blk_cell BK179.out 4).trans rfl; have hcz8_5 : w7.cell? ⟨gb179, 5, none⟩ = some (.bool a0_5) := (blk_cell BK179.out 5).trans rfl; have hfz8_0 := blk_frozen BK179.out 0; have hfz8_1 := blk_frozen BK179.out 1; have hfz8_2 := blk_frozen BK179.out 2; have hfz8_3 := blk_frozen BK179.out 3; have hfz8_4 := blk_frozen BK179.out 4; have hfz8_5 := blk_frozen BK179.out 5) | (go_at_call 16; (with_reducible refine (head_Is.calls a0_0 a0_1 a0_2 a0_3 a0_4 a0_5 true _ A4.out).mono ?_); rintro e w9 ⟨rfl, hb⟩; have n0_ := Aside0.mk (blk_below (g := gb179) (o := .cells #[.int .i64 a0_0, .int .i64 a0_1, .int .i64 a0_2, .int .i64 a0_3, .int .i64 a0_4, .bool a0_5] 37 (0, 0)) (by (with_reducible repeat (first | refine blk_drewN ?_ _ | refine blk_drew ?_ | refine blk_alloc ?_ _)); exact BK179.out) hb); have n1_ := Aside0.mk (below_step (by repeat (first | (with_reducible first | exact HB.out | apply below_alloc | apply pw_below_drewN | apply below_drew1 | refine below_set ?_ GE179.out) | exact HB.out)) hb); clear BK179; clear HB; have BK179 := n0_; have HB := n1_; clear n0_ n1_; (try clear hb); (try clear hb2); (try clear hk); (try clear hi)))
    repeat (go_quiet (first | ((with_reducible refine gate_dst (N := 3) rfl ?_); (try (refine gate_guard (by rfl) ?_; dsimp only)); refine box_event ?hg (N := 3) ?hd (cs := #[.int .i64 a0_0, .int .i64 a0_1, .int .i64 a0_2, .int .i64 a0_3, .int .i64 a0_4, .bool a0_5]) (t := 37) ?hr ?_; (case hd => rfl); (case hg => rfl); (case hr => first | (go_simp; done) | (go_simp; rfl)); intro gb179 hg w7 hbox hb; have n0_ := Aside0.mk (below_step (by repeat (first | (with_reducible first | exact HB.out | apply below_alloc | apply pw_below_drewN | apply below_drew1) | exact HB.out)) hb); have n1_ := Aside0.mk (hbox); have n2_ := Aside0.mk ((by rw [hg]; exact (below_size (by repeat (first | (with_reducible first | exact HB.out | apply below_alloc | apply pw_below_drewN | apply below_drew1) | exact HB.out))) : w.heap.size ≤ gb179)); have n3_ := Aside0.mk ((by rw [hg]; exact (below_size (by repeat (first | (with_reducible first | exact HB.out | apply below_alloc | apply pw_below_drewN | apply below_drew1) | exact HB.out))) : w.heap.size ≤ gb179)); clear HB; have HB := n0_; have BK179 := n1_; have GW179 := n2_; have GE179 := n3_; clear n0_ n1_ n2_ n3_; clear hb hbox hg; have hcz8_0 : w7.cell? ⟨gb179, 0, none⟩ = some (.int .i64 a0_0) := (blk_cell BK179.out 0).trans rfl; have hcz8_1 : w7.cell? ⟨gb179, 1, none⟩ = some (.int .i64 a0_1) := (blk_cell BK179.out 1).trans rfl; have hcz8_2 : w7.cell? ⟨gb179, 2, none⟩ = some (.int .i64 a0_2) := (blk_cell BK179.out 2).trans rfl; have hcz8_3 : w7.cell? ⟨gb179, 3, none⟩ = some (.int .i64 a0_3) := (blk_cell BK179.out 3).trans rfl; have hcz8_4 : w7.cell? ⟨gb179, 4, none⟩ = some (.int .i64 a0_4) := (blk_cell BK179.out 4).trans rfl; have hcz8_5 : w7.cell? ⟨gb179, 5, none⟩ = some (.bool a0_5) := (blk_cell BK179.out 5).trans rfl; have hfz8_0 := blk_frozen BK179.out 0; have hfz8_1 := blk_frozen BK179.out 1; have hfz8_2 := blk_frozen BK179.out 2; have hfz8_3 := blk_frozen BK179.out 3; have hfz8_4 := blk_frozen BK179.out 4; have hfz8_5 := blk_frozen BK179.out 5) | (go_at_call 16; (with_reducible refine (head_Is.calls a0_0 a0_1 a0_2 a0_3 a0_4 a0_5 true _ A4.out).mono ?_); rintro e w9 ⟨rfl, hb⟩; have n0_ := Aside0.mk (blk_below (g := gb179) (o := .cells #[.int .i64 a0_0, .int .i64 a0_1, .int .i64 a0_2, .int .i64 a0_3, .int .i64 a0_4, .bool a0_5] 37 (0, 0)) (by (with_reducible repeat (first | refine blk_drewN ?_ _ | refine blk_drew ?_ | refine blk_alloc ?_ _)); exact BK179.out) hb); have n1_ := Aside0.mk (below_step (by repeat (first | (with_reducible first | exact HB.out | apply below_alloc | apply pw_below_drewN | apply below_drew1 | refine below_set ?_ GE179.out) | exact HB.out)) hb); clear BK179; clear HB; have BK179 := n0_; have HB := n1_; clear n0_ n1_; (try clear hb); (try clear hb2); (try clear hk); (try clear hi))); go_upto_region 3 with (first | ((with_reducible refine gate_dst (N := 3) rfl ?_); (try (refine gate_guard (by rfl) ?_; dsimp only)); refine box_event ?hg (N := 3) ?hd (cs := #[.int .i64 a0_0, .int .i64 a0_1, .int .i64 a0_2, .int .i64 a0_3, .int .i64 a0_4, .bool a0_5]) (t := 37) ?hr ?_; (case hd => rfl); (case hg => rfl); (case hr => first | (go_simp; done) | (go_simp; rfl)); intro gb179 hg w7 hbox hb; have n0_ := Aside0.mk (below_step (by repeat (first | (with_reducible first | exact HB.out | apply below_alloc | apply pw_below_drewN | apply below_drew1) | exact HB.out)) hb); have n1_ := Aside0.mk (hbox); have n2_ := Aside0.mk ((by rw [hg]; exact (below_size (by repeat (first | (with_reducible first | exact HB.out | apply below_alloc | apply pw_below_drewN | apply below_drew1) | exact HB.out))) : w.heap.size ≤ gb179)); have n3_ := Aside0.mk ((by rw [hg]; exact (below_size (by repeat (first | (with_reducible first | exact HB.out | apply below_alloc | apply pw_below_drewN | apply below_drew1) | exact HB.out))) : w.heap.size ≤ gb179)); clear HB; have HB := n0_; have BK179 := n1_; have GW179 := n2_; have GE179 := n3_; clear n0_ n1_ n2_ n3_; clear hb hbox hg; have hcz8_0 : w7.cell? ⟨gb179, 0, none⟩ = some (.int .i64 a0_0) := (blk_cell BK179.out 0).trans rfl; have hcz8_1 : w7.cell? ⟨gb179, 1, none⟩ = some (.int .i64 a0_1) := (blk_cell BK179.out 1).trans rfl; have hcz8_2 : w7.cell? ⟨gb179, 2, none⟩ = some (.int .i64 a0_2) := (blk_cell BK179.out 2).trans rfl; have hcz8_3 : w7.cell? ⟨gb179, 3, none⟩ = some (.int .i64 a0_3) := (blk_cell BK179.out 3).trans rfl; have hcz8_4 : w7.cell? ⟨gb179, 4, none⟩ = some (.int .i64 a0_4) := (blk_cell BK179.out 4).trans rfl; have hcz8_5 : w7.cell? ⟨gb179, 5, none⟩ = some (.bool a0_5) := (blk_cell BK179.out 5).trans rfl; have hfz8_0 := blk_frozen BK179.out 0; have hfz8_1 := blk_frozen BK179.out 1; have hfz8_2 := blk_frozen BK179.out 2; have hfz8_3 := blk_frozen BK179.out 3; have hfz8_4 := blk_frozen BK179.out 4; have hfz8_5 := blk_frozen BK179.out 5) | (go_at_call 16; (with_reducible refine (head_Is.calls a0_0 a0_1 a0_2 a0_3 a0_4 a0_5 true _ A4.out).mono ?_); rintro e w9 ⟨rfl, hb⟩; have n0_ := Aside0.mk (blk_below (g := gb179) (o := .cells #[.int .i64 a0_0, .int .i64 a0_1, .int .i64 a0_2, .int .i64 a0_3, .int .i64 a0_4, .bool a0_5] 37 (0, 0)) (by (with_reducible repeat (first | refine blk_drewN ?_ _ | refine blk_drew ?_ | refine blk_alloc ?_ _)); exact BK179.out) hb); have n1_ := Aside0.mk (below_step (by repeat (first | (with_reducible first | exact HB.out | apply below_alloc | apply pw_below_drewN | apply below_drew1 | refine below_set ?_ GE179.out) | exact HB.out)) hb); clear BK179; clear HB; have BK179 := n0_; have HB := n1_; clear n0_ n1_; (try clear hb); (try clear hb2); (try clear hk); (try clear hi))))
    (try simp only [Act.put, List.setIfInBounds_toArray, List.set_cons_zero, List.set_cons_succ])
    go_cut [13] (fun v13 wc => ∃ (kq : Nat) (x13_5 : Bool), v13 = .bool x13_5 ∧ Aside0 (glyf_High.j0 kq l1 a2 x13_5 a0_0 a0_1 a0_2 a0_3 a0_4 a0_5 = some (r1, r2, r3)) ∧ Aside0 (kq ≤ k) ∧ Aside0 (wc.heap[gb179]? = some (.cells #[.int .i64 a0_0, .int .i64 a0_1, .int .i64 a0_2, .int .i64 a0_3, .int .i64 a0_4, .bool a0_5] 37 (0, 0))) ∧ Aside0 (Below w.heap.size w wc))
    case first =>
      have H := HC6.out
      clear HC6
      by_cases c10 : a2 < 0
      · rw [if_pos c10] at H
        have c10b0 : decide (a2 < 0) = true := decide_eq_true c10
        clear c10
        (first | rw [c10b0] | (simp only [i64_w, i32_w]; rw [c10b0]) | skip)
        have H' := Aside0.mk H
        clear H
        go_wp2
        repeat (go_quiet (fail); try go_wp2)
        go_meet
        case rel => exact ⟨_, (true), (by first | rfl | (simp; done) | (simp [*]; done)), H', ⟨by first | omega | exact Nat.le_refl _⟩, ⟨by (with_reducible repeat (first | refine blk_drewN ?_ _ | refine blk_drew ?_ | refine blk_alloc ?_ _)); exact BK179.out⟩, ⟨by repeat (first | (with_reducible first | exact HB.out | apply below_alloc | apply pw_below_drewN | apply below_drew1 | refine below_set ?_ GE179.out) | exact HB.out)⟩⟩
      · rw [if_neg c10] at H
        have c10b0 : decide (a2 < 0) = false := decide_eq_false c10
        clear c10
        (first | rw [c10b0] | (simp only [i64_w, i32_w]; rw [c10b0]) | skip)
        by_cases c11 : a2 ≥ a0_1
        · rw [if_pos c11] at H
          have c11b0 : decide (a0_1 ≤ a2) = true := decide_eq_true c11
          clear c11
          have H' := Aside0.mk H
          clear H
          have hcz12_0 : w9.cell? ⟨gb179, 0, none⟩ = some (.int .i64 a0_0) := (blk_cell BK179.out 0).trans rfl
          have hcz12_1 : w9.cell? ⟨gb179, 1, none⟩ = some (.int .i64 a0_1) := (blk_cell BK179.out 1).trans rfl
          have hcz12_2 : w9.cell? ⟨gb179, 2, none⟩ = some (.int .i64 a0_2) := (blk_cell BK179.out 2).trans rfl
          have hcz12_3 : w9.cell? ⟨gb179, 3, none⟩ = some (.int .i64 a0_3) := (blk_cell BK179.out 3).trans rfl
          have hcz12_4 : w9.cell? ⟨gb179, 4, none⟩ = some (.int .i64 a0_4) := (blk_cell BK179.out 4).trans rfl
          have hcz12_5 : w9.cell? ⟨gb179, 5, none⟩ = some (.bool a0_5) := (blk_cell BK179.out 5).trans rfl
          have hfz12_0 := blk_frozen BK179.out 0
          have hfz12_1 := blk_frozen BK179.out 1
          have hfz12_2 := blk_frozen BK179.out 2
          have hfz12_3 := blk_frozen BK179.out 3
          have hfz12_4 := blk_frozen BK179.out 4
          have hfz12_5 := blk_frozen BK179.out 5
          go_wp2
          repeat (go_quiet (fail); try go_wp2)
          go_meet
          case rel => exact ⟨_, (true), (by first | rfl | (simp; done) | (simp [*]; done)), H', ⟨by first | omega | exact Nat.le_refl _⟩, ⟨by (with_reducible repeat (first | refine blk_drewN ?_ _ | refine blk_drew ?_ | refine blk_alloc ?_ _)); exact BK179.out⟩, ⟨by repeat (first | (with_reducible first | exact HB.out | apply below_alloc | apply pw_below_drewN | apply below_drew1 | refine below_set ?_ GE179.out) | exact HB.out)⟩⟩
        · rw [if_neg c11] at H
          have c11b0 : decide (a0_1 ≤ a2) = false := decide_eq_false c11
          clear c11
          by_cases c13 : (l1.length : Int) > 0
          · rw [if_pos c13] at H
            have c13b0 : decide (0 < (l1.length : Int)) = true := decide_eq_true c13
            have c13b1 : decide (0 < l1.length) = true := decide_eq_true (by omega)
            clear c13
            have H' := Aside0.mk H
            clear H
            have hcz14_0 : w9.cell? ⟨gb179, 0, none⟩ = some (.int .i64 a0_0) := (blk_cell BK179.out 0).trans rfl
            have hcz14_1 : w9.cell? ⟨gb179, 1, none⟩ = some (.int .i64 a0_1) := (blk_cell BK179.out 1).trans rfl
            have hcz14_2 : w9.cell? ⟨gb179, 2, none⟩ = some (.int .i64 a0_2) := (blk_cell BK179.out 2).trans rfl
            have hcz14_3 : w9.cell? ⟨gb179, 3, none⟩ = some (.int .i64 a0_3) := (blk_cell BK179.out 3).trans rfl
            have hcz14_4 : w9.cell? ⟨gb179, 4, none⟩ = some (.int .i64 a0_4) := (blk_cell BK179.out 4).trans rfl
            have hcz14_5 : w9.cell? ⟨gb179, 5, none⟩ = some (.bool a0_5) := (blk_cell BK179.out 5).trans rfl
            have hfz14_0 := blk_frozen BK179.out 0
            have hfz14_1 := blk_frozen BK179.out 1
            have hfz14_2 := blk_frozen BK179.out 2
            have hfz14_3 := blk_frozen BK179.out 3
            have hfz14_4 := blk_frozen BK179.out 4
            have hfz14_5 := blk_frozen BK179.out 5
            go_wp2
            repeat (go_quiet (fail); try go_wp2)
            go_meet
            case rel => exact ⟨_, (decide (a2 ≥ (l1.length : Int))), (by first | rfl | (simp; done) | (simp [*]; done)), H', ⟨by first | omega | exact Nat.le_refl _⟩, ⟨by (with_reducible repeat (first | refine blk_drewN ?_ _ | refine blk_drew ?_ | refine blk_alloc ?_ _)); exact BK179.out⟩, ⟨by repeat (first | (with_reducible first | exact HB.out | apply below_alloc | apply pw_below_drewN | apply below_drew1 | refine below_set ?_ GE179.out) | exact HB.out)⟩⟩
          · rw [if_neg c13] at H
            have c13b0 : decide (0 < (l1.length : Int)) = false := decide_eq_false c13
            have c13b1 : decide (0 < l1.length) = false := decide_eq_false (by omega)
            clear c13
            have H' := Aside0.mk H
            clear H
            have hcz15_0 : w9.cell? ⟨gb179, 0, none⟩ = some (.int .i64 a0_0) := (blk_cell BK179.out 0).trans rfl
            have hcz15_1 : w9.cell? ⟨gb179, 1, none⟩ = some (.int .i64 a0_1) := (blk_cell BK179.out 1).trans rfl
            have hcz15_2 : w9.cell? ⟨gb179, 2, none⟩ = some (.int .i64 a0_2) := (blk_cell BK179.out 2).trans rfl
            have hcz15_3 : w9.cell? ⟨gb179, 3, none⟩ = some (.int .i64 a0_3) := (blk_cell BK179.out 3).trans rfl
            have hcz15_4 : w9.cell? ⟨gb179, 4, none⟩ = some (.int .i64 a0_4) := (blk_cell BK179.out 4).trans rfl
            have hcz15_5 : w9.cell? ⟨gb179, 5, none⟩ = some (.bool a0_5) := (blk_cell BK179.out 5).trans rfl
            have hfz15_0 := blk_frozen BK179.out 0
            have hfz15_1 := blk_frozen BK179.out 1
            have hfz15_2 := blk_frozen BK179.out 2
            have hfz15_3 := blk_frozen BK179.out 3
            have hfz15_4 := blk_frozen BK179.out 4
            have hfz15_5 := blk_frozen BK179.out 5
            go_wp2
            repeat (go_quiet (fail); try go_wp2)
            go_meet
            case rel => exact ⟨_, (false), (by first | rfl | (simp; done) | (simp [*]; done)), H', ⟨by first | omega | exact Nat.le_refl _⟩, ⟨by (with_reducible repeat (first | refine blk_drewN ?_ _ | refine blk_drew ?_ | refine blk_alloc ?_ _)); exact BK179.out⟩, ⟨by repeat (first | (with_reducible first | exact HB.out | apply below_alloc | apply pw_below_drewN | apply below_drew1 | refine below_set ?_ GE179.out) | exact HB.out)⟩⟩
    case rest =>
      clear HC6
      try clear c1
      try clear p2
      try clear c5
      try clear c10
      try clear c10b0
      try clear c11
      try clear c11b0
      try clear c13
      try clear c13b0
      try clear c13b1
      try clear c15
      try clear hcz12_0
      try clear hcz12_1
      try clear hcz12_2
      try clear hcz12_3
      try clear hcz12_4
      try clear hcz12_5
      try clear hcz14_0
      try clear hcz14_1
      try clear hcz14_2
      try clear hcz14_3
      try clear hcz14_4
      try clear hcz14_5
      try clear hcz15_0
      try clear hcz15_1
      try clear hcz15_2
      try clear hcz15_3
      try clear hcz15_4
      try clear hcz15_5
      try clear hcz8_0
      try clear hcz8_1
      try clear hcz8_2
      try clear hcz8_3
      try clear hcz8_4
      try clear hcz8_5
      try clear hfz12_0
      try clear hfz12_1
      try clear hfz12_2
      try clear hfz12_3
      try clear hfz12_4
      try clear hfz12_5
      try clear hfz14_0
      try clear hfz14_1
      try clear hfz14_2
      try clear hfz14_3
      try clear hfz14_4
      try clear hfz14_5
      try clear hfz15_0
      try clear hfz15_1
      try clear hfz15_2
      try clear hfz15_3
      try clear hfz15_4
      try clear hfz15_5
      try clear hfz8_0
      try clear hfz8_1
      try clear hfz8_2
      try clear hfz8_3
      try clear hfz8_4
      try clear hfz8_5
      obtain ⟨kq, x13_5, rfl, HA, HJ5, BK179, HB⟩ := hcut
      cases kq with
      | zero => exact absurd HA.out (by simp [glyf_High.j0])
      | succ kj5 =>
        have H := HA.out
        clear HA
        simp only [glyf_High.j0] at H
        by_cases c16 : x13_5 = true
        · subst c16
          have H1 : (some (0, 0, 10)) = some (r1, r2, r3) := by rw [if_pos rfl] at H; exact H
          clear H
          have H := H1
          clear H1
          simp only [Option.some.injEq, Prod.mk.injEq] at H
          obtain ⟨rfl, rfl, rfl⟩ := H
          go_wp2
          repeat (go_quiet (fail); try go_wp2)
          go_ret3
          exact ⟨by first | rfl | (simp [errW_none, errW_some] <;> rfl) | (simp [*, errW_none, errW_some] <;> rfl), by repeat (first | (with_reducible first | exact HB.out | apply below_alloc | apply pw_below_drewN | apply below_drew1 | refine below_set ?_ GE179.out) | exact HB.out)⟩
        · replace c16 := Bool.eq_false_iff.mpr c16
          subst c16
          have H1 : (if (l1.length : Int) = 0 then (some (a0_3, wrap64 (-a0_4), 0)) else (if 0 ≤ a2 then (if a2 < (l1.length : Int) then (some ((rd_T30 l1 a2).f4, wrap64 (-((rd_T30 l1 a2).f2)), 0)) else (none)) else (none))) = some (r1, r2, r3) := by rw [if_neg (show ¬ (false = true) by decide)] at H; exact H
          clear H
          have H := H1
          clear H1
          by_cases c17 : (l1.length : Int) = 0
          · rw [if_pos c17] at H
            have c17b0 : ((l1.length : Int) == 0) = true := beq_iff_eq.mpr c17
            have c17b1 : ((l1.length : Int) != 0) = false := bne_eq_false_iff_eq.mpr c17
            clear c17
            simp only [Option.some.injEq, Prod.mk.injEq] at H
            obtain ⟨rfl, rfl, rfl⟩ := H
            have hcz18_0 : wc.cell? ⟨gb179, 0, none⟩ = some (.int .i64 a0_0) := (blk_cell BK179.out 0).trans rfl
            have hcz18_1 : wc.cell? ⟨gb179, 1, none⟩ = some (.int .i64 a0_1) := (blk_cell BK179.out 1).trans rfl
            have hcz18_2 : wc.cell? ⟨gb179, 2, none⟩ = some (.int .i64 a0_2) := (blk_cell BK179.out 2).trans rfl
            have hcz18_3 : wc.cell? ⟨gb179, 3, none⟩ = some (.int .i64 a0_3) := (blk_cell BK179.out 3).trans rfl
            have hcz18_4 : wc.cell? ⟨gb179, 4, none⟩ = some (.int .i64 a0_4) := (blk_cell BK179.out 4).trans rfl
            have hcz18_5 : wc.cell? ⟨gb179, 5, none⟩ = some (.bool a0_5) := (blk_cell BK179.out 5).trans rfl
            have hfz18_0 := blk_frozen BK179.out 0
            have hfz18_1 := blk_frozen BK179.out 1
            have hfz18_2 := blk_frozen BK179.out 2
            have hfz18_3 := blk_frozen BK179.out 3
            have hfz18_4 := blk_frozen BK179.out 4
            have hfz18_5 := blk_frozen BK179.out 5
            go_wp2
            repeat (go_quiet (fail); try go_wp2)
            go_ret3
            exact ⟨by first | rfl | (simp [errW_none, errW_some] <;> rfl) | (simp [*, errW_none, errW_some] <;> rfl), by repeat (first | (with_reducible first | exact HB.out | apply below_alloc | apply pw_below_drewN | apply below_drew1 | refine below_set ?_ GE179.out) | exact HB.out)⟩
          · rw [if_neg c17] at H
            have c17b0 : ((l1.length : Int) == 0) = false := beq_eq_false_iff_ne.mpr c17
            have c17b1 : ((l1.length : Int) != 0) = true := bne_iff_ne.mpr c17
            have c17b2 : ¬ (l1 = []) := fun h_ => c17 (by rw [h_]; rfl)
            by_cases c19 : 0 ≤ a2
            · rw [if_pos c19] at H
              have c19b0 : decide (0 ≤ a2) = true := decide_eq_true c19
              clear c19
              by_cases c20 : a2 < (l1.length : Int)
              · rw [if_pos c20] at H
                have c20b0 : decide (a2 < (l1.length : Int)) = true := decide_eq_true c20
                clear c20
                simp only [Option.some.injEq, Prod.mk.injEq] at H
                obtain ⟨rfl, rfl, rfl⟩ := H
                have p181 : 0 ≤ (a2 : Int) := of_decide_eq_true (by first | (with_reducible assumption) | assumption)
                have q181 : a2 < (l1.length : Int) := of_decide_eq_true (by first | (with_reducible assumption) | assumption)
                obtain ⟨ad181, e181, hx181_0, hx181_1, hx181_2, hx181_3, hx181_4⟩ := at_T30 HR1.out a2 p181 q181
                cases e181
                replace hx181_0 := (HB.out.cell (World.block_lt_of_cell? w _ hx181_0)).trans hx181_0
                replace hx181_1 := (HB.out.cell (World.block_lt_of_cell? w _ hx181_1)).trans hx181_1
                replace hx181_2 := (HB.out.cell (World.block_lt_of_cell? w _ hx181_2)).trans hx181_2
                replace hx181_3 := (HB.out.cell (World.block_lt_of_cell? w _ hx181_3)).trans hx181_3
                replace hx181_4 := (HB.out.cell (World.block_lt_of_cell? w _ hx181_4)).trans hx181_4
                replace p181 := eq_true p181
                replace q181 := eq_true q181
                have p182 : 0 ≤ (a2 : Int) := of_decide_eq_true (by first | (with_reducible assumption) | assumption)
                have q182 : a2 < (l1.length : Int) := of_decide_eq_true (by first | (with_reducible assumption) | assumption)
                obtain ⟨ad182, e182, hx182_0, hx182_1, hx182_2, hx182_3, hx182_4⟩ := at_T30 HR1.out a2 p182 q182
                obtain rfl : ad181 = ad182 := (by injection e182)
                replace hx182_0 := (HB.out.cell (World.block_lt_of_cell? w _ hx182_0)).trans hx182_0
                replace hx182_1 := (HB.out.cell (World.block_lt_of_cell? w _ hx182_1)).trans hx182_1
                replace hx182_2 := (HB.out.cell (World.block_lt_of_cell? w _ hx182_2)).trans hx182_2
                replace hx182_3 := (HB.out.cell (World.block_lt_of_cell? w _ hx182_3)).trans hx182_3
                replace hx182_4 := (HB.out.cell (World.block_lt_of_cell? w _ hx182_4)).trans hx182_4
                replace p182 := eq_true p182
                replace q182 := eq_true q182
                go_wp2
                repeat (go_quiet (fail); try go_wp2)
                go_ret3
                exact ⟨by first | rfl | (simp [errW_none, errW_some] <;> rfl) | (simp [*, errW_none, errW_some] <;> rfl), by repeat (first | (with_reducible first | exact HB.out | apply below_alloc | apply pw_below_drewN | apply below_drew1 | refine below_set ?_ GE179.out) | exact HB.out)⟩
              · rw [if_neg c20] at H
                exact absurd H (by simp)
            · rw [if_neg c19] at H
              exact absurd H (by simp)
  · replace c5 := Bool.eq_false_iff.mpr c5
    subst c5
    have H1 : (some (0, 0, 1)) = some (r1, r2, r3) := by rw [if_neg (show ¬ (false = true) by decide)] at H; exact H
    clear H
    have H := H1
    clear H1
    simp only [Option.some.injEq, Prod.mk.injEq] at H
    obtain ⟨rfl, rfl, rfl⟩ := H
    go_enter Try.func15, Try.ntmps15
    go_wp2_with (first | ((with_reducible refine gate_dst (N := 3) rfl ?_); (try (refine gate_guard (by rfl) ?_; dsimp only)); refine box_event ?hg (N := 3) ?hd (cs := #[.int .i64 a0_0, .int .i64 a0_1, .int .i64 a0_2, .int .i64 a0_3, .int .i64 a0_4, .bool a0_5]) (t := 37) ?hr ?_; (case hd => rfl); (case hg => rfl); (case hr => first | (go_simp; done) | (go_simp; rfl)); intro gb179 hg w21 hbox hb; have n0_ := Aside0.mk (below_step (by repeat (first | (with_reducible first | exact HB.out | apply below_alloc | apply pw_below_drewN | apply below_drew1) | exact HB.out)) hb); have n1_ := Aside0.mk (hbox); have n2_ := Aside0.mk ((by rw [hg]; exact (below_size (by repeat (first | (with_reducible first | exact HB.out | apply below_alloc | apply pw_below_drewN | apply below_drew1) | exact HB.out))) : w.heap.size ≤ gb179)); have n3_ := Aside0.mk ((by rw [hg]; exact (below_size (by repeat (first | (with_reducible first | exact HB.out | apply below_alloc | apply pw_below_drewN | apply below_drew1) | exact HB.out))) : w.heap.size ≤ gb179)); clear HB; have HB := n0_; have BK179 := n1_; have GW179 := n2_; have GE179 := n3_; clear n0_ n1_ n2_ n3_; clear hb hbox hg; have hcz22_0 : w21.cell? ⟨gb179, 0, none⟩ = some (.int .i64 a0_0) := (blk_cell BK179.out 0).trans rfl; have hcz22_1 : w21.cell? ⟨gb179, 1, none⟩ = some (.int .i64 a0_1) := (blk_cell BK179.out 1).trans rfl; have hcz22_2 : w21.cell? ⟨gb179, 2, none⟩ = some (.int .i64 a0_2) := (blk_cell BK179.out 2).trans rfl; have hcz22_3 : w21.cell? ⟨gb179, 3, none⟩ = some (.int .i64 a0_3) := (blk_cell BK179.out 3).trans rfl; have hcz22_4 : w21.cell? ⟨gb179, 4, none⟩ = some (.int .i64 a0_4) := (blk_cell BK179.out 4).trans rfl; have hcz22_5 : w21.cell? ⟨gb179, 5, none⟩ = some (.bool a0_5) := (blk_cell BK179.out 5).trans rfl; have hfz22_0 := blk_frozen BK179.out 0; have hfz22_1 := blk_frozen BK179.out 1; have hfz22_2 := blk_frozen BK179.out 2; have hfz22_3 := blk_frozen BK179.out 3; have hfz22_4 := blk_frozen BK179.out 4; have hfz22_5 := blk_frozen BK179.out 5) | (go_at_call 16; (with_reducible refine (head_Is.calls a0_0 a0_1 a0_2 a0_3 a0_4 a0_5 false _ A4.out).mono ?_); rintro e w23 ⟨rfl, hb⟩; have n0_ := Aside0.mk (blk_below (g := gb179) (o := .cells #[.int .i64 a0_0, .int .i64 a0_1, .int .i64 a0_2, .int .i64 a0_3, .int .i64 a0_4, .bool a0_5] 37 (0, 0)) (by (with_reducible repeat (first | refine blk_drewN ?_ _ | refine blk_drew ?_ | refine blk_alloc ?_ _)); exact BK179.out) hb); have n1_ := Aside0.mk (below_step (by repeat (first | (with_reducible first | exact HB.out | apply below_alloc | apply pw_below_drewN | apply below_drew1 | refine below_set ?_ GE179.out) | exact HB.out)) hb); clear BK179; clear HB; have BK179 := n0_; have HB := n1_; clear n0_ n1_; (try clear hb); (try clear hb2); (try clear hk); (try clear hi)))
    repeat (go_quiet (first | ((with_reducible refine gate_dst (N := 3) rfl ?_); (try (refine gate_guard (by rfl) ?_; dsimp only)); refine box_event ?hg (N := 3) ?hd (cs := #[.int .i64 a0_0, .int .i64 a0_1, .int .i64 a0_2, .int .i64 a0_3, .int .i64 a0_4, .bool a0_5]) (t := 37) ?hr ?_; (case hd => rfl); (case hg => rfl); (case hr => first | (go_simp; done) | (go_simp; rfl)); intro gb179 hg w21 hbox hb; have n0_ := Aside0.mk (below_step (by repeat (first | (with_reducible first | exact HB.out | apply below_alloc | apply pw_below_drewN | apply below_drew1) | exact HB.out)) hb); have n1_ := Aside0.mk (hbox); have n2_ := Aside0.mk ((by rw [hg]; exact (below_size (by repeat (first | (with_reducible first | exact HB.out | apply below_alloc | apply pw_below_drewN | apply below_drew1) | exact HB.out))) : w.heap.size ≤ gb179)); have n3_ := Aside0.mk ((by rw [hg]; exact (below_size (by repeat (first | (with_reducible first | exact HB.out | apply below_alloc | apply pw_below_drewN | apply below_drew1) | exact HB.out))) : w.heap.size ≤ gb179)); clear HB; have HB := n0_; have BK179 := n1_; have GW179 := n2_; have GE179 := n3_; clear n0_ n1_ n2_ n3_; clear hb hbox hg; have hcz22_0 : w21.cell? ⟨gb179, 0, none⟩ = some (.int .i64 a0_0) := (blk_cell BK179.out 0).trans rfl; have hcz22_1 : w21.cell? ⟨gb179, 1, none⟩ = some (.int .i64 a0_1) := (blk_cell BK179.out 1).trans rfl; have hcz22_2 : w21.cell? ⟨gb179, 2, none⟩ = some (.int .i64 a0_2) := (blk_cell BK179.out 2).trans rfl; have hcz22_3 : w21.cell? ⟨gb179, 3, none⟩ = some (.int .i64 a0_3) := (blk_cell BK179.out 3).trans rfl; have hcz22_4 : w21.cell? ⟨gb179, 4, none⟩ = some (.int .i64 a0_4) := (blk_cell BK179.out 4).trans rfl; have hcz22_5 : w21.cell? ⟨gb179, 5, none⟩ = some (.bool a0_5) := (blk_cell BK179.out 5).trans rfl; have hfz22_0 := blk_frozen BK179.out 0; have hfz22_1 := blk_frozen BK179.out 1; have hfz22_2 := blk_frozen BK179.out 2; have hfz22_3 := blk_frozen BK179.out 3; have hfz22_4 := blk_frozen BK179.out 4; have hfz22_5 := blk_frozen BK179.out 5) | (go_at_call 16; (with_reducible refine (head_Is.calls a0_0 a0_1 a0_2 a0_3 a0_4 a0_5 false _ A4.out).mono ?_); rintro e w23 ⟨rfl, hb⟩; have n0_ := Aside0.mk (blk_below (g := gb179) (o := .cells #[.int .i64 a0_0, .int .i64 a0_1, .int .i64 a0_2, .int .i64 a0_3, .int .i64 a0_4, .bool a0_5] 37 (0, 0)) (by (with_reducible repeat (first | refine blk_drewN ?_ _ | refine blk_drew ?_ | refine blk_alloc ?_ _)); exact BK179.out) hb); have n1_ := Aside0.mk (below_step (by repeat (first | (with_reducible first | exact HB.out | apply below_alloc | apply pw_below_drewN | apply below_drew1 | refine below_set ?_ GE179.out) | exact HB.out)) hb); clear BK179; clear HB; have BK179 := n0_; have HB := n1_; clear n0_ n1_; (try clear hb); (try clear hb2); (try clear hk); (try clear hi))); try go_wp2_with (first | ((with_reducible refine gate_dst (N := 3) rfl ?_); (try (refine gate_guard (by rfl) ?_; dsimp only)); refine box_event ?hg (N := 3) ?hd (cs := #[.int .i64 a0_0, .int .i64 a0_1, .int .i64 a0_2, .int .i64 a0_3, .int .i64 a0_4, .bool a0_5]) (t := 37) ?hr ?_; (case hd => rfl); (case hg => rfl); (case hr => first | (go_simp; done) | (go_simp; rfl)); intro gb179 hg w21 hbox hb; have n0_ := Aside0.mk (below_step (by repeat (first | (with_reducible first | exact HB.out | apply below_alloc | apply pw_below_drewN | apply below_drew1) | exact HB.out)) hb); have n1_ := Aside0.mk (hbox); have n2_ := Aside0.mk ((by rw [hg]; exact (below_size (by repeat (first | (with_reducible first | exact HB.out | apply below_alloc | apply pw_below_drewN | apply below_drew1) | exact HB.out))) : w.heap.size ≤ gb179)); have n3_ := Aside0.mk ((by rw [hg]; exact (below_size (by repeat (first | (with_reducible first | exact HB.out | apply below_alloc | apply pw_below_drewN | apply below_drew1) | exact HB.out))) : w.heap.size ≤ gb179)); clear HB; have HB := n0_; have BK179 := n1_; have GW179 := n2_; have GE179 := n3_; clear n0_ n1_ n2_ n3_; clear hb hbox hg; have hcz22_0 : w21.cell? ⟨gb179, 0, none⟩ = some (.int .i64 a0_0) := (blk_cell BK179.out 0).trans rfl; have hcz22_1 : w21.cell? ⟨gb179, 1, none⟩ = some (.int .i64 a0_1) := (blk_cell BK179.out 1).trans rfl; have hcz22_2 : w21.cell? ⟨gb179, 2, none⟩ = some (.int .i64 a0_2) := (blk_cell BK179.out 2).trans rfl; have hcz22_3 : w21.cell? ⟨gb179, 3, none⟩ = some (.int .i64 a0_3) := (blk_cell BK179.out 3).trans rfl; have hcz22_4 : w21.cell? ⟨gb179, 4, none⟩ = some (.int .i64 a0_4) := (blk_cell BK179.out 4).trans rfl; have hcz22_5 : w21.cell? ⟨gb179, 5, none⟩ = some (.bool a0_5) := (blk_cell BK179.out 5).trans rfl; have hfz22_0 := blk_frozen BK179.out 0; have hfz22_1 := blk_frozen BK179.out 1; have hfz22_2 := blk_frozen BK179.out 2; have hfz22_3 := blk_frozen BK179.out 3; have hfz22_4 := blk_frozen BK179.out 4; have hfz22_5 := blk_frozen BK179.out 5) | (go_at_call 16; (with_reducible refine (head_Is.calls a0_0 a0_1 a0_2 a0_3 a0_4 a0_5 false _ A4.out).mono ?_); rintro e w23 ⟨rfl, hb⟩; have n0_ := Aside0.mk (blk_below (g := gb179) (o := .cells #[.int .i64 a0_0, .int .i64 a0_1, .int .i64 a0_2, .int .i64 a0_3, .int .i64 a0_4, .bool a0_5] 37 (0, 0)) (by (with_reducible repeat (first | refine blk_drewN ?_ _ | refine blk_drew ?_ | refine blk_alloc ?_ _)); exact BK179.out) hb); have n1_ := Aside0.mk (below_step (by repeat (first | (with_reducible first | exact HB.out | apply below_alloc | apply pw_below_drewN | apply below_drew1 | refine below_set ?_ GE179.out) | exact HB.out)) hb); clear BK179; clear HB; have BK179 := n0_; have HB := n1_; clear n0_ n1_; (try clear hb); (try clear hb2); (try clear hk); (try clear hi))))
    go_ret3
    exact ⟨by first | rfl | (simp [errW_none, errW_some] <;> rfl) | (simp [*, errW_none, errW_some] <;> rfl), by repeat (first | (with_reducible first | exact HB.out | apply below_alloc | apply pw_below_drewN | apply below_drew1 | refine below_set ?_ GE179.out) | exact HB.out)⟩
end Go.Proofs.Ytjmliafplgjkhaa.P
end
