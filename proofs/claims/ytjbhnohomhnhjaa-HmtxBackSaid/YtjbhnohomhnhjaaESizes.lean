/- hmtx's sizes: a row of ints, so many times: as slices.Repeat. The same condition. -/
import Derived.Test.YtjbhnohomhnhjaaERepeat
namespace Go.Proofs.Ytjbhnohomhnhjaa.P
open Go.RowKit Go.Proofs.YtjbhnohomhnhjaaW.PrintWords Go.Proofs.YtjbhnohomhnhjaaW.PrintLast Go.Proofs.YtjbhnohomhnhjaaW.PrintMore
set_option linter.unusedSimpArgs false
set_option linter.unusedVariables false
theorem hmtx_sizes.calls (a0 : Int) (A1 : Option Addr) (c1 : Nat) (l1 : List Int) (r1 : List Int) (w : World) (hr1 : Kd.C (Kd.int .i64) w A1 l1.length l1) (hc1 : l1.length ≤ c1) (h : slices_Repeat.f l1 a0 = some r1) :
    Calls Try.prog 15 #[.int .i64 a0, .slice A1 l1.length c1] w fun e w' => ∃ v0_ : Value, e = .returned v0_ ∧ Kd.R (Kd.int .i64) 3 w' w.heap.size (fun _ => True) v0_ r1 ∧ Below w.heap.size w w' := by
  have HR := Lib.hid hr1
  have HC := Lib.hid hc1
  have HF := Lib.hid h
  clear hr1 hc1 h
  go_enter Try.func15, Try.ntmps15
  go_wp2_with fail
  refine (slices_Repeat.calls A1 c1 l1 a0 r1 _ HR.out HC.out HF.out).mono ?_
  rintro e w1 ⟨v, rfl, hr, hb⟩
  obtain ⟨A, c, rfl⟩ := Kd.R_slice hr
  have HRR := Lib.hid hr
  have HB := Lib.hid hb
  clear hr hb
  go_wp2
  go_ret
  exact ⟨_, rfl, HRR.out, HB.out⟩
end Go.Proofs.Ytjbhnohomhnhjaa.P
