/- slices.Concat of two rows of ints, told plainly: one behind the other, in memory of the call's own; slices.Grow of no row. Condition: all is no more than 2^44 numbers. -/
import Derived.Test.YtjbhnohomhnhjaaEHmtxGet
namespace Go.Proofs.Ytjbhnohomhnhjaa.P
open Go.RowKit Go.Proofs.YtjbhnohomhnhjaaW.PrintWords Go.Proofs.YtjbhnohomhnhjaaW.PrintLast Go.Proofs.YtjbhnohomhnhjaaW.PrintMore
set_option linter.unusedSimpArgs false
set_option linter.unusedVariables false
theorem row_cut {W : World} {base : Nat} {ok : Nat → Prop} {g n cap : Nat} {xs : List Int} (h : Kd.R (Kd.int .i64) 3 W base ok (.slice (some ⟨g, 0, none⟩) n cap) xs) : Kd.R (Kd.int .i64) 3 W base ok (.slice (some ⟨g, 0, none⟩) 0 cap) [] := by
  have ho := Kd.own_of_R h
  refine Kd.R_of_own ?_ (fun k hk => h.1 k (by simpa [Value.ownBlock] using hk))
  rcases ho.2 with ⟨h', _⟩ | ⟨g', cap', cur, h', hb, hg, hnc, hcm, hcs, ht⟩
  · simp at h'
  · simp only [Value.slice.injEq, Option.some.injEq, Addr.mk.injEq, and_true, true_and] at h'
    obtain ⟨rfl, rfl, rfl⟩ := h'
    exact ⟨rfl, .inr ⟨g, cap, cur, rfl, hb, hg, Nat.zero_le _, hcm, hcs, by simp [encs]⟩⟩
set_option maxHeartbeats 2000000 in
theorem grow_walk (n : Nat) (hn : n ≤ 17592186044416) (w : World) :
    Calls Try.prog 34 #[.slice none 0 0, .int .i64 (n : Int)] w fun e w' => ∃ v, e = .returned v ∧ Kd.R (Kd.int .i64) 3 w' w.heap.size (fun _ => True) v [] ∧ Below w.heap.size w w' := by
  have d1 : decide ((n : Int) < 0) = false := decide_eq_false (by omega)
  have w1 : wrap64 (n : Int) = (n : Int) := by unfold wrap64; omega
  by_cases h0 : n = 0
  · subst h0
    go_enter Try.func34, Try.ntmps34
    go_wp2
    go_ret
    exact ⟨_, rfl, Kd.R_nil _ _ _ _ _, Below.refl _ _⟩
  · have d2 : decide (0 < (n : Int)) = true := decide_eq_true (by omega)
    have d3 : decide (0 < n) = true := decide_eq_true (by omega)
    have HN := Lib.hid (show 0 < n by omega)
    have HN2 := Lib.hid (show ((([] : List Int).length + (n : Int).toNat) * 8 ≤ 140737488355328) by simp; omega)
    clear h0 hn
    go_enter Try.func34, Try.ntmps34
    go_wp2_with (at_builtin; go_loud (refine Kd.R_append_zeros (Kd.int .i64) (w0 := w) w.heap.size rfl (.tmp 20) (.tmp 21) 37 3 3 (.int .i64 0) 8 rfl Try.underlying37 Try.underlying3 repInfo rfl (by decide) (by decide) _ [] 0 (n : Int) (fun _ => True) rfl (Eq.trans (by rfl) (congrArg (Value.int .i64) w1)) rfl (fun _ _ => trivial) (Kd.R_nil _ _ _ _ _) (Int.natCast_nonneg _) (Below.refl _ _) (Nat.le_refl _) HN2.out ?_))
    intro v1 w2 ho hb hg hat
    obtain ⟨g, cap, rfl, _, _, _, _, _⟩ := row_block ho (by have := HN.out; simp; omega)
    have HR := Lib.hid (row_cut ho)
    have HB := Lib.hid hb
    clear ho hb hg hat
    go_wp2
    go_ret
    exact ⟨_, rfl, HR.out, HB.out⟩
set_option maxHeartbeats 2000000 in
theorem concat_walk (A0 A1 : Option Addr) (c0 c1 cap : Nat) (l0 l1 : List Int) (g : Nat) (w : World) (hc0 : w.cell? ⟨g, 0, none⟩ = some (.slice A0 l0.length c0)) (hc1 : w.cell? ⟨g, 1, none⟩ = some (.slice A1 l1.length c1))
    (C0 : Kd.C (Kd.int .i64) w A0 l0.length l0) (C1 : Kd.C (Kd.int .i64) w A1 l1.length l1) (hl : l0.length + l1.length ≤ 17592186044416) :
    Calls Try.prog 20 #[.slice (some ⟨g, 0, none⟩) 2 cap] w fun e w' => ∃ v, e = .returned v ∧ Kd.R (Kd.int .i64) 3 w' w.heap.size (fun _ => True) v (l0 ++ l1) ∧ Below w.heap.size w w' := by
  have HC0 := Lib.hid C0
  have HC1 := Lib.hid C1
  have HL := Lib.hid hl
  have HA0 := Lib.hid hc0
  have HA1 := Lib.hid hc1
  have w1_ : wrap64 (l0.length : Int) = (l0.length : Int) := by unfold wrap64; omega
  have w2_ : wrap64 ((l0.length : Int) + (l1.length : Int)) = (l0.length : Int) + (l1.length : Int) := by unfold wrap64; omega
  have d1 : decide ((l0.length : Int) < 0) = false := decide_eq_false (by omega)
  have d2 : decide ((l0.length : Int) + (l1.length : Int) < 0) = false := decide_eq_false (by omega)
  clear C0 C1 hl hc0 hc1
  go_enter Try.func20, Try.ntmps20
  go_wp2_with fail
  go_loopw [11, 3] (fun v11 v3 wr => ∃ (i : Nat) (s : Int), v11 = .int .i64 (i : Int) ∧ v3 = .int .i64 s ∧ Aside0 (i = 0 ∧ s = 0 ∨ i = 1 ∧ s = l0.length ∨ i = 2 ∧ s = (l0.length : Int) + (l1.length : Int)) ∧ w = wr) (fun v11 _ _ => 2 - (intOf v11).toNat)
  case atStart => exact ⟨0, 0, rfl, rfl, ⟨.inl ⟨rfl, rfl⟩⟩, rfl⟩
  case round =>
    obtain ⟨i, s, rfl, rfl, HI, rfl⟩ := hrel
    rcases HI.out with ⟨rfl, rfl⟩ | ⟨rfl, rfl⟩ | ⟨rfl, rfl⟩
    · have hc0 := HA0.out
      go_wp2
      go_roundw
      case rel => exact ⟨1, _, rfl, rfl, ⟨.inr (.inl ⟨rfl, by first | exact w1_ | rfl⟩)⟩, by trivial⟩
      case measure => decide
    · have hc1 := HA1.out
      go_wp2
      go_roundw
      case rel => exact ⟨2, _, rfl, rfl, ⟨.inr (.inr ⟨rfl, by first | exact w2_ | rfl⟩)⟩, by trivial⟩
      case measure => decide
    · go_wp2_with fail
      have hgw := grow_walk (l0.length + l1.length) HL.out w
      rw [Int.natCast_add] at hgw
      refine hgw.mono ?_
      clear hgw
      rintro e w1 ⟨v, rfl, hr, hb⟩
      obtain ⟨Av, kv, rfl⟩ := Kd.R_slice hr
      have HR := Lib.hid hr
      have HB := Lib.hid hb
      clear hr hb
      go_wp2_with fail
      go_loopw [27, 6] (fun v27 v6 wq => ∃ (i : Nat) (xs : List Int), v27 = .int .i64 (i : Int) ∧ Aside0 (i = 0 ∧ xs = [] ∨ i = 1 ∧ xs = l0 ∨ i = 2 ∧ xs = l0 ++ l1) ∧ Aside0 (Kd.R (Kd.int .i64) 3 wq w.heap.size (fun _ => True) v6 xs) ∧ Aside0 (Below w.heap.size w wq)) (fun v27 _ _ => 2 - (intOf v27).toNat)
      case atStart => exact ⟨0, [], rfl, ⟨.inl ⟨rfl, rfl⟩⟩, ⟨HR.out⟩, ⟨HB.out⟩⟩
      case round =>
        obtain ⟨i, xs, rfl, HI2, HX, HQ⟩ := hrel
        rcases HI2.out with ⟨rfl, rfl⟩ | ⟨rfl, rfl⟩ | ⟨rfl, rfl⟩
        · have hc0 := (HQ.out.cell (World.block_lt_of_cell? _ _ HA0.out)).trans HA0.out
          have HD0 := Lib.hid (Kd.C_below HC0.out HQ.out)
          have HLN := Lib.hid (show (([] : List Int).length + l0.length) * 8 ≤ 140737488355328 by have := HL.out; simp; omega)
          go_wp2_with (at_builtin; go_loud (refine Kd.R_append_rows (Kd.int .i64) (Rr := fun x cs => cs = [Value.int .i64 x]) (w0 := w) w.heap.size rfl (.tmp 31) (.tmp 32) 37 3 (.int .i64 0) 8 rfl Try.underlying37 repInfo rfl (by decide) (by decide) _ [] l0 A0 l0.length c0 (fun _ => True) (fun _ => False) rfl rfl HX.out HD0.out (fun _ _ h => h) (fun _ h => h.elim) (fun _ _ => trivial) HQ.out HQ.out.size HLN.out ?_))
          intro v1 w2 ho hb hg hat
          obtain ⟨A5, k5, rfl⟩ := Kd.R_slice ho
          have HO := Lib.hid ho
          have HB2 := Lib.hid hb
          clear ho hb hg hat
          go_wp2
          go_roundw
          case rel => exact ⟨1, _, rfl, ⟨.inr (.inl ⟨rfl, rfl⟩)⟩, ⟨HO.out⟩, ⟨HB2.out⟩⟩
          case measure => decide
        · have hc1 := (HQ.out.cell (World.block_lt_of_cell? _ _ HA1.out)).trans HA1.out
          have HD1 := Lib.hid (Kd.C_below HC1.out HQ.out)
          have HLN := Lib.hid (show (xs.length + l1.length) * 8 ≤ 140737488355328 by have := HL.out; omega)
          go_wp2_with (at_builtin; go_loud (refine Kd.R_append_rows (Kd.int .i64) (Rr := fun x cs => cs = [Value.int .i64 x]) (w0 := w) w.heap.size rfl (.tmp 31) (.tmp 32) 37 3 (.int .i64 0) 8 rfl Try.underlying37 repInfo rfl (by decide) (by decide) _ xs l1 A1 l1.length c1 (fun _ => True) (fun _ => False) rfl rfl HX.out HD1.out (fun _ _ h => h) (fun _ h => h.elim) (fun _ _ => trivial) HQ.out HQ.out.size HLN.out ?_))
          intro v1 w2 ho hb hg hat
          obtain ⟨A5, k5, rfl⟩ := Kd.R_slice ho
          have HO := Lib.hid ho
          have HB2 := Lib.hid hb
          clear ho hb hg hat
          go_wp2
          go_roundw
          case rel => exact ⟨2, _, rfl, ⟨.inr (.inr ⟨rfl, rfl⟩)⟩, ⟨HO.out⟩, ⟨HB2.out⟩⟩
          case measure => decide
        · go_wp2
          go_ret
          exact ⟨_, rfl, HX.out, HQ.out⟩
end Go.Proofs.Ytjbhnohomhnhjaa.P
