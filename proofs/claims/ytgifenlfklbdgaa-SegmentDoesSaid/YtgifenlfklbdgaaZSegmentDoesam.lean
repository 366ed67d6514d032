/- A part of the proof of the law SegmentDoes: the words, contracts and plain facts that it needs, no more. Each says its own condition. -/
import Derived.Test.YtgifenlfklbdgaaZSegmentDoesg
import Derived.WalkKit
import Derived.Lib.Hide
namespace Go.Proofs.Ytgifenlfklbdgaa.P
open Go.RowKit Go.Proofs.YtgifenlfklbdgaaW.PrintWords Go.Proofs.YtgifenlfklbdgaaW.PrintLast Go.Proofs.YtgifenlfklbdgaaW.PrintMore
set_option linter.unusedSimpArgs false
set_option linter.unusedVariables false
def lenTab : ByteArray := ⟨#[0, 1, 2, 2, 3, 3, 3, 3, 4, 4, 4, 4, 4, 4, 4, 4, 5, 5, 5, 5, 5, 5, 5, 5, 5, 5, 5, 5, 5, 5, 5, 5, 6, 6, 6, 6, 6, 6, 6, 6, 6, 6, 6, 6, 6, 6, 6, 6, 6, 6, 6, 6, 6, 6, 6, 6, 6, 6, 6, 6, 6, 6, 6, 6, 7, 7, 7, 7, 7, 7, 7, 7, 7, 7, 7, 7, 7, 7, 7, 7, 7, 7, 7, 7, 7, 7, 7, 7, 7, 7, 7, 7, 7, 7, 7, 7, 7, 7, 7, 7, 7, 7, 7, 7, 7, 7, 7, 7, 7, 7, 7, 7, 7, 7, 7, 7, 7, 7, 7, 7, 7, 7, 7, 7, 7, 7, 7, 7, 8, 8, 8, 8, 8, 8, 8, 8, 8, 8, 8, 8, 8, 8, 8, 8, 8, 8, 8, 8, 8, 8, 8, 8, 8, 8, 8, 8, 8, 8, 8, 8, 8, 8, 8, 8, 8, 8, 8, 8, 8, 8, 8, 8, 8, 8, 8, 8, 8, 8, 8, 8, 8, 8, 8, 8, 8, 8, 8, 8, 8, 8, 8, 8, 8, 8, 8, 8, 8, 8, 8, 8, 8, 8, 8, 8, 8, 8, 8, 8, 8, 8, 8, 8, 8, 8, 8, 8, 8, 8, 8, 8, 8, 8, 8, 8, 8, 8, 8, 8, 8, 8, 8, 8, 8, 8, 8, 8, 8, 8, 8, 8, 8, 8, 8, 8, 8, 8, 8, 8, 8, 8, 8, 8, 8, 8, 8, 8]⟩
set_option maxRecDepth 100000 in
theorem len_key (n : Nat) (h0 : 1 ≤ n) (h : n < 256) (h2 : n < lenTab.size) : (lenTab[n]'h2).toNat = n.log2 + 1 := by
  have key : ∀ m : Fin 256, 1 ≤ m.1 → (lenTab.data[m.1]'m.2).toNat = m.1.log2 + 1 := by decide +kernel
  exact key ⟨n, h⟩ h0
theorem log2_half (n : Nat) (h : 2 ≤ n) : n.log2 = (n / 2).log2 + 1 := by
  rw [Nat.log2_def, if_pos h]
theorem log2_byte (n : Nat) (h : 256 ≤ n) : n.log2 = (n / 256).log2 + 8 := by
  rw [log2_half n (by omega), log2_half (n / 2) (by omega), log2_half (n / 2 / 2) (by omega), log2_half (n / 2 / 2 / 2) (by omega), log2_half (n / 2 / 2 / 2 / 2) (by omega), log2_half (n / 2 / 2 / 2 / 2 / 2) (by omega), log2_half (n / 2 / 2 / 2 / 2 / 2 / 2) (by omega), log2_half (n / 2 / 2 / 2 / 2 / 2 / 2 / 2) (by omega)]
  have e : n / 2 / 2 / 2 / 2 / 2 / 2 / 2 / 2 = n / 256 := by omega
  rw [e]
theorem log2_small {n : Nat} (h : n < 65536) : n.log2 < 16 := by
  by_cases h0 : n = 0
  · subst h0; decide
  · exact (Nat.log2_lt h0).2 (by simpa using h)
theorem ret_i64 {a b : Int} (h : a = b) : Ending.returned (.int .i64 a) = .returned (.int .i64 b) := by rw [h]
set_option maxRecDepth 100000 in
set_option maxHeartbeats 1000000 in
theorem len64_low (n : Nat) (w : World) (h0 : 1 ≤ n) (h1 : n < 256) :
    Calls Try.prog 127 #[.int .u64 (n : Int)] w fun e w' => e = .returned (.int .i64 ((n.log2 : Int) + 1)) ∧ w = w' := by
  have d1 : decide ((4294967296 : Int) ≤ (n : Int)) = false := decide_eq_false (by omega)
  have d2 : decide ((65536 : Int) ≤ (n : Int)) = false := decide_eq_false (by omega)
  have d3 : decide ((256 : Int) ≤ (n : Int)) = false := decide_eq_false (by omega)
  have a0 : (0 : Int) ≤ (n : Int) := by omega
  have a1 : (n : Int) < 256 := by omega
  have HN := Lib.hid (show 1 ≤ n ∧ n < 256 from ⟨h0, h1⟩)
  clear h0 h1
  go_enter Try.func127, Try.ntmps127
  go_wp2
  go_ret
  refine ⟨ret_i64 ?_, rfl⟩
  have hk := len_key n HN.out.1 HN.out.2 (by show n < 256; exact HN.out.2)
  have hl := log2_small (n := n) (by have := HN.out; omega)
  show wrap64 (wrap64 (((lenTab[n]'(by show n < 256; exact HN.out.2)).toNat : Nat) : Int)) = _
  rw [hk]
  unfold wrap64; omega
set_option maxRecDepth 100000 in
set_option maxHeartbeats 1000000 in
theorem len64_high (n : Nat) (w : World) (h0 : 256 ≤ n) (h1 : n < 65536) :
    Calls Try.prog 127 #[.int .u64 (n : Int)] w fun e w' => e = .returned (.int .i64 ((n.log2 : Int) + 1)) ∧ w = w' := by
  have d1 : decide ((4294967296 : Int) ≤ (n : Int)) = false := decide_eq_false (by omega)
  have d2 : decide ((65536 : Int) ≤ (n : Int)) = false := decide_eq_false (by omega)
  have d3 : decide ((256 : Int) ≤ (n : Int)) = true := decide_eq_true (by omega)
  obtain ⟨q, hq⟩ : ∃ q, q = n / 256 := ⟨_, rfl⟩
  have hqi : (n : Int) / 256 = (q : Int) := by omega
  have a0 : (0 : Int) ≤ (q : Int) := by omega
  have a1 : (q : Int) < 256 := by omega
  have hqm : (q : Int) % 256 = (q : Int) := by omega
  have HN := Lib.hid (show 1 ≤ q ∧ q < 256 by omega)
  have HL := Lib.hid (show n.log2 = q.log2 + 8 by rw [hq]; exact log2_byte n h0)
  clear h0 h1 hq
  go_enter Try.func127, Try.ntmps127
  go_wp2
  go_ret
  refine ⟨ret_i64 ?_, rfl⟩
  have hk := len_key q HN.out.1 HN.out.2 (by show q < 256; exact HN.out.2)
  have hl := log2_small (n := q) (by have := HN.out; omega)
  show wrap64 (8 + wrap64 (((lenTab[q]'(by show q < 256; exact HN.out.2)).toNat : Nat) : Int)) = _
  rw [hk, HL.out]
  unfold wrap64; omega
set_option maxRecDepth 100000 in
set_option maxHeartbeats 1000000 in
theorem len_calls (n : Nat) (w : World) (h0 : 1 ≤ n) (h1 : n < 65536) :
    Calls Try.prog 91 #[.int .u64 (n : Int)] w fun e w' => e = .returned (.int .i64 ((n.log2 : Int) + 1)) ∧ w = w' := by
  have H := Lib.hid (show ∀ w, Calls Try.prog 127 #[.int .u64 (n : Int)] w fun e w' => e = .returned (.int .i64 ((n.log2 : Int) + 1)) ∧ w = w' from fun w => by
    by_cases h : n < 256
    · exact len64_low n w h0 h
    · exact len64_high n w (by omega) h1)
  clear h0 h1
  go_enter Try.func91, Try.ntmps91
  go_wp2_with fail
  refine (H.out w).mono ?_
  rintro e w1 ⟨rfl, rfl⟩
  go_wp2
  go_ret
  exact ⟨rfl, rfl⟩
end Go.Proofs.Ytgifenlfklbdgaa.P
