/- A part of the proof of the law SegmentDoes: the words, contracts and plain facts that it needs, no more. Each says its own condition. -/
import Derived.Test.YtgifenlfklbdgaaZSegmentDoesg
import Derived.Test.YtgifenlfklbdgaaZSegmentDoesap
namespace Go.Proofs.Ytgifenlfklbdgaa.P
open Go.RowKit Go.Proofs.YtgifenlfklbdgaaW.PrintWords Go.Proofs.YtgifenlfklbdgaaW.PrintLast Go.Proofs.YtgifenlfklbdgaaW.PrintMore
attribute [local go_sem] max2_int min2_int max_two min_two max_three min_three max_four min_four
set_option linter.unusedVariables false
set_option linter.unusedSimpArgs false
mutual
def vinculumref09_Put.j0 : Nat → List (S42) → Int → Int → Option (ByteArray × Int)
  | 0, _, _, _ => none
  | k + 1, x0, x4, x5 => vinculumref09_Put.l0 k x0 x4 x5 1 0
def vinculumref09_Put.l0 : Nat → List (S42) → Int → Int → Int → Int → Option (ByteArray × Int)
  | 0, _, _, _, _, _ => none
  | k + 1, x0, x4, x5, x7, x8 => if (wrap64 (2 * x7)) ≤ x4 then (vinculumref09_Put.l0 k x0 x4 x5 (wrap64 (2 * x7)) (wrap64 (x8 + 1))) else (vinculumref09_Put.l1 k x0 x4 (⟨#[]⟩ : ByteArray) (([4, wrap64 ((wrap64 (16 + (wrap64 (8 * x4)))) + (wrap64 (2 * x5))), 0, wrap64 (2 * x4), wrap64 (2 * x7), x8, wrap64 ((wrap64 (2 * x4)) - (wrap64 (2 * x7)))] : List Int)) 0)
def vinculumref09_Put.l1 : Nat → List (S42) → Int → ByteArray → List Int → Int → Option (ByteArray × Int)
  | 0, _, _, _, _, _ => none
  | k + 1, x0, x4, x9, x10, x11 => if x11 < (x10.length : Int) then (if 0 ≤ x11 then ((vinculumref03_Bytes.f k (rd x10 x11) 2).bind fun t687 => (if x9.size + t687.size ≤ 9223372036854775807 then (vinculumref09_Put.l1 k x0 x4 (x9 ++ t687) x10 (wrap64 (x11 + 1))) else (none))) else (none)) else (vinculumref09_Put.l2 k x0 x4 x9 0)
def vinculumref09_Put.l2 : Nat → List (S42) → Int → ByteArray → Int → Option (ByteArray × Int)
  | 0, _, _, _, _ => none
  | k + 1, x0, x4, x9, x12 => if x12 < x4 then (if 0 ≤ x12 then (if x12 < (x0.length : Int) then ((vinculumref03_Bytes.f k ((rd_T42 x0 x12).f1) 2).bind fun t689 => (if x9.size + t689.size ≤ 9223372036854775807 then (vinculumref09_Put.l2 k x0 x4 (x9 ++ t689) (wrap64 (x12 + 1))) else (none))) else (none)) else (none)) else (if x9.size + 2 ≤ 9223372036854775807 then (vinculumref09_Put.l3 k x0 x4 (x9 ++ (⟨#[0, 0]⟩ : ByteArray)) 0) else (none))
def vinculumref09_Put.l3 : Nat → List (S42) → Int → ByteArray → Int → Option (ByteArray × Int)
  | 0, _, _, _, _ => none
  | k + 1, x0, x4, x9, x13 => if x13 < x4 then (if 0 ≤ x13 then (if x13 < (x0.length : Int) then ((vinculumref03_Bytes.f k ((rd_T42 x0 x13).f0) 2).bind fun t691 => (if x9.size + t691.size ≤ 9223372036854775807 then (vinculumref09_Put.l3 k x0 x4 (x9 ++ t691) (wrap64 (x13 + 1))) else (none))) else (none)) else (none)) else (vinculumref09_Put.l4 k x0 x4 x9 0)
def vinculumref09_Put.l4 : Nat → List (S42) → Int → ByteArray → Int → Option (ByteArray × Int)
  | 0, _, _, _, _ => none
  | k + 1, x0, x4, x9, x14 => if x14 < x4 then (if 0 ≤ x14 then (if x14 < (x0.length : Int) then ((vinculumref09_row.f ((rd_T42 x0 x14).f0) ((rd_T42 x0 x14).f1) ((rd_T42 x0 x14).f2) ((rd_T42 x0 x14).f3)).bind fun t693 => (if t693 = true then ((vinculumref03_Bytes.f k 0 2).bind fun t694 => (if x9.size + t694.size ≤ 9223372036854775807 then (vinculumref09_Put.l4 k x0 x4 (x9 ++ t694) (wrap64 (x14 + 1))) else (none))) else ((vinculumref09_plane.f (wrap64 ((wrap64 (65536 + ((rd_T42 x0 x14).f2))) - ((rd_T42 x0 x14).f0)))).bind fun t697 => ((vinculumref03_Bytes.f k t697 2).bind fun t698 => (if x9.size + t698.size ≤ 9223372036854775807 then (vinculumref09_Put.l4 k x0 x4 (x9 ++ t698) (wrap64 (x14 + 1))) else (none)))))) else (none)) else (none)) else (vinculumref09_Put.l5 k x0 x4 x9 0 (⟨#[]⟩ : ByteArray) 0)
def vinculumref09_Put.l5 : Nat → List (S42) → Int → ByteArray → Int → ByteArray → Int → Option (ByteArray × Int)
  | 0, _, _, _, _, _, _ => none
  | k + 1, x0, x4, x9, x16, x17, x18 => if x18 < x4 then (if 0 ≤ x18 then (if x18 < (x0.length : Int) then ((vinculumref09_row.f ((rd_T42 x0 x18).f0) ((rd_T42 x0 x18).f1) ((rd_T42 x0 x18).f2) ((rd_T42 x0 x18).f3)).bind fun t700 => (if t700 = true then (vinculumref09_Put.l6 k x0 x4 x9 x16 x17 x18 (wrap64 ((wrap64 (2 * (wrap64 (x4 - x18)))) + (wrap64 (2 * x16)))) ((rd_T42 x0 x18).f0)) else ((vinculumref03_Bytes.f k 0 2).bind fun t706 => (if x9.size + t706.size ≤ 9223372036854775807 then (vinculumref09_Put.l5 k x0 x4 (x9 ++ t706) x16 x17 (wrap64 (x18 + 1))) else (none))))) else (none)) else (none)) else (if x9.size + x17.size ≤ 9223372036854775807 then (some (x9 ++ x17, 0)) else (none))
def vinculumref09_Put.l6 : Nat → List (S42) → Int → ByteArray → Int → ByteArray → Int → Int → Int → Option (ByteArray × Int)
  | 0, _, _, _, _, _, _, _, _ => none
  | k + 1, x0, x4, x9, x16, x17, x18, x19, x20 => if 0 ≤ x18 then (if x18 < (x0.length : Int) then (if x20 ≤ ((rd_T42 x0 x18).f1) then ((vinculumref03_Bytes.f k ((rd_T42 x0 x18).f2) 2).bind fun t704 => (if x17.size + t704.size ≤ 9223372036854775807 then (vinculumref09_Put.l6 k x0 x4 x9 (wrap64 (x16 + 1)) (x17 ++ t704) x18 x19 (wrap64 (x20 + 1))) else (none))) else ((vinculumref03_Bytes.f k x19 2).bind fun t705 => (if x9.size + t705.size ≤ 9223372036854775807 then (vinculumref09_Put.l5 k x0 x4 (x9 ++ t705) x16 x17 (wrap64 (x18 + 1))) else (none)))) else (none)) else (none)
end
def vinculumref09_Put.f (k : Nat) (l0 : List (S42)) : Option (ByteArray × Int) := (vinculumref09_Many.f k l0).bind fun bt674 => (if bt674.2.2 = 0 then ((vinculumref09_kept.f k l0).bind fun t677 => (if (t677.length : Int) < bt674.1 then (if t677.length < 4398046511104 then (vinculumref09_Put.j0 k (t677 ++ [(⟨65535, 65535, 0, 1⟩ : S42)]) bt674.1 bt674.2.1) else (none)) else (vinculumref09_Put.j0 k t677 bt674.1 bt674.2.1))) else (some ((⟨#[]⟩ : ByteArray), bt674.2.2)))
set_option maxHeartbeats 8000000 in
set_option maxRecDepth 100000 in
theorem vinculumref09_Put.calls (k : Nat) (A0 : Option Addr) (c0 : Nat) (l0 : List (S42)) (r1 : ByteArray) (r2 : Int) (w : World) (hr0 : Kd.C k42 w A0 l0.length l0) (hc0 : l0.length ≤ c0) (h : vinculumref09_Put.f k l0 = some (r1, r2)) :
    Calls Try.prog 52 #[.slice A0 l0.length c0] w fun e w' => e = .returned (.tuple #[.string r1, .int .i64 r2]) ∧ Below w.heap.size w w' := by
  have hu42 := Try.underlying42
  have HR0 := Aside0.mk hr0
  have HC0 := Aside0.mk hc0
  clear hr0 hc0
  have HB := Aside0.mk (Below.refl w.heap.size w)
  have H : ((vinculumref09_Many.f k l0).bind fun bt674 => (if bt674.2.2 = 0 then ((vinculumref09_kept.f k l0).bind fun t677 => (if (t677.length : Int) < bt674.1 then (if t677.length < 4398046511104 then (vinculumref09_Put.j0 k (t677 ++ [(⟨65535, 65535, 0, 1⟩ : S42)]) bt674.1 bt674.2.1) else (none)) else (vinculumref09_Put.j0 k t677 bt674.1 bt674.2.1))) else (some ((⟨#[]⟩ : ByteArray), bt674.2.2)))) = some (r1, r2) := h
  clear h
  replace H := Option.bind_eq_some_iff.mp H
  obtain ⟨⟨t674, t675, t676⟩, A20, H⟩ := H
  replace H : (if t676 = 0 then ((vinculumref09_kept.f k l0).bind fun t677 => (if (t677.length : Int) < t674 then (if t677.length < 4398046511104 then (vinculumref09_Put.j0 k (t677 ++ [(⟨65535, 65535, 0, 1⟩ : S42)]) t674 t675) else (none)) else (vinculumref09_Put.j0 k t677 t674 t675))) else (some ((⟨#[]⟩ : ByteArray), t676))) = some (r1, r2) := H
  have A2 := Aside0.mk A20
  clear A20
  by_cases c3 : t676 = 0
  · rw [if_pos c3] at H
    have c3b0 : (t676 == 0) = true := beq_iff_eq.mpr c3
    have c3b1 : (t676 != 0) = false := bne_eq_false_iff_eq.mpr c3
    clear c3
    replace H := Option.bind_eq_some_iff.mp H
    obtain ⟨t677, A40, H⟩ := H
    replace H : (if (t677.length : Int) < t674 then (if t677.length < 4398046511104 then (vinculumref09_Put.j0 k (t677 ++ [(⟨65535, 65535, 0, 1⟩ : S42)]) t674 t675) else (none)) else (vinculumref09_Put.j0 k t677 t674 t675)) = some (r1, r2) := H
    have A4 := Aside0.mk A40
    clear A40
    have HC5 := Aside0.mk H
    clear H
    go_enter Try.func52, Try.ntmps52
    go_upto_if 35 with (first | (go_at_call 54; (with_reducible refine (vinculumref09_Many.calls k _ _ l0 t674 t675 t676 _ ?side1 ?side2 A2.out).mono ?_); (case side1 => repeat (first | exact HR0.out | (with_reducible refine Kd.C_alloc ?_ _) | (with_reducible refine Kd.C_drewN ?_ _) | (with_reducible refine Kd.C_drew ?_))); (case side2 => exact HC0.out); rintro e w6 ⟨rfl, hb⟩; have n0_ := Aside0.mk (below_step (by repeat (first | (with_reducible first | exact HB.out | apply below_alloc | apply pw_below_drewN | apply below_drew1) | exact HB.out)) hb); clear HB; have HB := n0_; clear n0_; (try clear hb); (try clear hb2); (try clear hk); (try clear hi)) | (go_at_call 99; (with_reducible refine (vinculumref09_kept.calls k _ _ l0 t677 _ ?side1 ?side2 A4.out).mono ?_); (case side1 => repeat (first | exact (Kd.C_below HR0.out HB.out) | (with_reducible refine Kd.C_alloc ?_ _) | (with_reducible refine Kd.C_drewN ?_ _) | (with_reducible refine Kd.C_drew ?_))); (case side2 => exact HC0.out); rintro e w7 ⟨v678, rfl, ho0, hb⟩; have n0_ := Aside0.mk (Kd.R_lower ho0 (below_size (by repeat (first | (with_reducible first | exact HB.out | apply below_alloc | apply pw_below_drewN | apply below_drew1) | exact HB.out)))); have n1_ := Aside0.mk (below_step (by repeat (first | (with_reducible first | exact HB.out | apply below_alloc | apply pw_below_drewN | apply below_drew1) | exact HB.out)) hb); clear HB; have HO679 := n0_; have HB := n1_; clear n0_ n1_; (try clear hb); (try clear hb2); (try clear hk); (try clear hi); (try clear ho0); obtain ⟨Ao8, co8, eo8⟩ := Kd.R_slice HO679.out; subst eo8))
    repeat (go_quiet (first | (go_at_call 54; (with_reducible refine (vinculumref09_Many.calls k _ _ l0 t674 t675 t676 _ ?side1 ?side2 A2.out).mono ?_); (case side1 => repeat (first | exact HR0.out | (with_reducible refine Kd.C_alloc ?_ _) | (with_reducible refine Kd.C_drewN ?_ _) | (with_reducible refine Kd.C_drew ?_))); (case side2 => exact HC0.out); rintro e w6 ⟨rfl, hb⟩; have n0_ := Aside0.mk (below_step (by repeat (first | (with_reducible first | exact HB.out | apply below_alloc | apply pw_below_drewN | apply below_drew1) | exact HB.out)) hb); clear HB; have HB := n0_; clear n0_; (try clear hb); (try clear hb2); (try clear hk); (try clear hi)) | (go_at_call 99; (with_reducible refine (vinculumref09_kept.calls k _ _ l0 t677 _ ?side1 ?side2 A4.out).mono ?_); (case side1 => repeat (first | exact (Kd.C_below HR0.out HB.out) | (with_reducible refine Kd.C_alloc ?_ _) | (with_reducible refine Kd.C_drewN ?_ _) | (with_reducible refine Kd.C_drew ?_))); (case side2 => exact HC0.out); rintro e w7 ⟨v678, rfl, ho0, hb⟩; have n0_ := Aside0.mk (Kd.R_lower ho0 (below_size (by repeat (first | (with_reducible first | exact HB.out | apply below_alloc | apply pw_below_drewN | apply below_drew1) | exact HB.out)))); have n1_ := Aside0.mk (below_step (by repeat (first | (with_reducible first | exact HB.out | apply below_alloc | apply pw_below_drewN | apply below_drew1) | exact HB.out)) hb); clear HB; have HO679 := n0_; have HB := n1_; clear n0_ n1_; (try clear hb); (try clear hb2); (try clear hk); (try clear hi); (try clear ho0); obtain ⟨Ao8, co8, eo8⟩ := Kd.R_slice HO679.out; subst eo8)); go_upto_if 35 with (first | (go_at_call 54; (with_reducible refine (vinculumref09_Many.calls k _ _ l0 t674 t675 t676 _ ?side1 ?side2 A2.out).mono ?_); (case side1 => repeat (first | exact HR0.out | (with_reducible refine Kd.C_alloc ?_ _) | (with_reducible refine Kd.C_drewN ?_ _) | (with_reducible refine Kd.C_drew ?_))); (case side2 => exact HC0.out); rintro e w6 ⟨rfl, hb⟩; have n0_ := Aside0.mk (below_step (by repeat (first | (with_reducible first | exact HB.out | apply below_alloc | apply pw_below_drewN | apply below_drew1) | exact HB.out)) hb); clear HB; have HB := n0_; clear n0_; (try clear hb); (try clear hb2); (try clear hk); (try clear hi)) | (go_at_call 99; (with_reducible refine (vinculumref09_kept.calls k _ _ l0 t677 _ ?side1 ?side2 A4.out).mono ?_); (case side1 => repeat (first | exact (Kd.C_below HR0.out HB.out) | (with_reducible refine Kd.C_alloc ?_ _) | (with_reducible refine Kd.C_drewN ?_ _) | (with_reducible refine Kd.C_drew ?_))); (case side2 => exact HC0.out); rintro e w7 ⟨v678, rfl, ho0, hb⟩; have n0_ := Aside0.mk (Kd.R_lower ho0 (below_size (by repeat (first | (with_reducible first | exact HB.out | apply below_alloc | apply pw_below_drewN | apply below_drew1) | exact HB.out)))); have n1_ := Aside0.mk (below_step (by repeat (first | (with_reducible first | exact HB.out | apply below_alloc | apply pw_below_drewN | apply below_drew1) | exact HB.out)) hb); clear HB; have HO679 := n0_; have HB := n1_; clear n0_ n1_; (try clear hb); (try clear hb2); (try clear hk); (try clear hi); (try clear ho0); obtain ⟨Ao8, co8, eo8⟩ := Kd.R_slice HO679.out; subst eo8)))
    (try simp only [Act.put, List.setIfInBounds_toArray, List.set_cons_zero, List.set_cons_succ])
    go_cut [0] (fun v0 wc => ∃ (kq : Nat) (x0_4 : List (S42)), Aside0 (vinculumref09_Put.j0 kq x0_4 t674 t675 = some (r1, r2)) ∧ Aside0 (kq ≤ k) ∧ Aside0 (Kd.R k42 42 wc w.heap.size (fun _ => True) v0 x0_4) ∧ Aside0 (Below w.heap.size w wc))
    case first =>
      have H := HC5.out
      clear HC5
      by_cases c9 : (t677.length : Int) < t674
      · rw [if_pos c9] at H
        have c9b0 : decide ((t677.length : Int) < t674) = true := decide_eq_true c9
        clear c9
        (first | rw [c9b0] | (simp only [i64_w, i32_w]; rw [c9b0]) | skip)
        by_cases c10 : t677.length < 4398046511104
        · rw [if_pos c10] at H
          have LMc10 := Aside0.mk c10
          clear c10
          obtain ⟨y680, hy680⟩ : ∃ y_ : List (S42), y_ = (t677 ++ [(⟨65535, 65535, 0, 1⟩ : S42)]) := ⟨_, rfl⟩
          replace H : (vinculumref09_Put.j0 k y680 t674 t675) = some (r1, r2) := by first | (rw [hy680]; with_reducible exact H) | (have H2_ := (Option.bind_some _ _).symm.trans H; rw [hy680]; with_reducible exact H2_) | (have H2_ := (Option.bind_some _ _).symm.trans H; with_reducible exact H2_) | with_reducible exact H | (rw [hy680]; exact H) | exact H
          have Ny680 := Aside0.mk hy680
          clear hy680
          have H' := Aside0.mk H
          clear H
          go_wp2_with (first | ((with_reducible refine gate_builtin (b := .append) (xs := #[.tmp 36, .tmp 38]) rfl ?_); at_builtin; refine Kd.R_append k42 (w0 := w) w.heap.size rfl (.tmp 36) (.tmp 38) 22 42 (.agg #[(.int .i64 0), (.int .i64 0), (.int .i64 0), (.int .i64 0)]) 32 rfl Try.underlying22 info42 rfl (by decide) (by omega) (.slice Ao8 t677.length co8) t677 (⟨65535, 65535, 0, 1⟩ : S42) [.int .i64 65535, .int .i64 65535, .int .i64 0, .int .i64 1] (fun _ => True) (fun _ => False) rfl rfl ?aP (fun _ hk => hk.elim) ?aF ?aO ?aB ?aS ?aL ?_; (case aP => exact k42_mkM _ _ _ (⟨65535, 65535, 0, 1⟩ : S42)); (case aB => exact (by repeat (first | (with_reducible first | exact HB.out | apply below_alloc | apply pw_below_drewN | apply below_drew1) | exact HB.out))); (case aF => exact (fun _ _ => trivial)); (case aO => exact (by (with_reducible repeat (first | apply Kd.R_alloc | apply Kd.R_drewN | apply Kd.R_drew)); exact HO679.out)); (case aS => exact (below_size (by repeat (first | (with_reducible first | exact HB.out | apply below_alloc | apply pw_below_drewN | apply below_drew1) | exact HB.out)))); (case aL => have := LMc10.out; omega); intro v681 w11 ho hb hg hat; rw [← Ny680.out] at ho; have n0_ := Aside0.mk (hb); have n1_ := Aside0.mk (ho); clear HB; clear HO679; have HB := n0_; have HO682 := n1_; clear n0_ n1_; clear ho hb hg hat))
          repeat (go_quiet (first | ((with_reducible refine gate_builtin (b := .append) (xs := #[.tmp 36, .tmp 38]) rfl ?_); at_builtin; refine Kd.R_append k42 (w0 := w) w.heap.size rfl (.tmp 36) (.tmp 38) 22 42 (.agg #[(.int .i64 0), (.int .i64 0), (.int .i64 0), (.int .i64 0)]) 32 rfl Try.underlying22 info42 rfl (by decide) (by omega) (.slice Ao8 t677.length co8) t677 (⟨65535, 65535, 0, 1⟩ : S42) [.int .i64 65535, .int .i64 65535, .int .i64 0, .int .i64 1] (fun _ => True) (fun _ => False) rfl rfl ?aP (fun _ hk => hk.elim) ?aF ?aO ?aB ?aS ?aL ?_; (case aP => exact k42_mkM _ _ _ (⟨65535, 65535, 0, 1⟩ : S42)); (case aB => exact (by repeat (first | (with_reducible first | exact HB.out | apply below_alloc | apply pw_below_drewN | apply below_drew1) | exact HB.out))); (case aF => exact (fun _ _ => trivial)); (case aO => exact (by (with_reducible repeat (first | apply Kd.R_alloc | apply Kd.R_drewN | apply Kd.R_drew)); exact HO679.out)); (case aS => exact (below_size (by repeat (first | (with_reducible first | exact HB.out | apply below_alloc | apply pw_below_drewN | apply below_drew1) | exact HB.out)))); (case aL => have := LMc10.out; omega); intro v681 w11 ho hb hg hat; rw [← Ny680.out] at ho; have n0_ := Aside0.mk (hb); have n1_ := Aside0.mk (ho); clear HB; clear HO679; have HB := n0_; have HO682 := n1_; clear n0_ n1_; clear ho hb hg hat)); try go_wp2_with (first | ((with_reducible refine gate_builtin (b := .append) (xs := #[.tmp 36, .tmp 38]) rfl ?_); at_builtin; refine Kd.R_append k42 (w0 := w) w.heap.size rfl (.tmp 36) (.tmp 38) 22 42 (.agg #[(.int .i64 0), (.int .i64 0), (.int .i64 0), (.int .i64 0)]) 32 rfl Try.underlying22 info42 rfl (by decide) (by omega) (.slice Ao8 t677.length co8) t677 (⟨65535, 65535, 0, 1⟩ : S42) [.int .i64 65535, .int .i64 65535, .int .i64 0, .int .i64 1] (fun _ => True) (fun _ => False) rfl rfl ?aP (fun _ hk => hk.elim) ?aF ?aO ?aB ?aS ?aL ?_; (case aP => exact k42_mkM _ _ _ (⟨65535, 65535, 0, 1⟩ : S42)); (case aB => exact (by repeat (first | (with_reducible first | exact HB.out | apply below_alloc | apply pw_below_drewN | apply below_drew1) | exact HB.out))); (case aF => exact (fun _ _ => trivial)); (case aO => exact (by (with_reducible repeat (first | apply Kd.R_alloc | apply Kd.R_drewN | apply Kd.R_drew)); exact HO679.out)); (case aS => exact (below_size (by repeat (first | (with_reducible first | exact HB.out | apply below_alloc | apply pw_below_drewN | apply below_drew1) | exact HB.out)))); (case aL => have := LMc10.out; omega); intro v681 w11 ho hb hg hat; rw [← Ny680.out] at ho; have n0_ := Aside0.mk (hb); have n1_ := Aside0.mk (ho); clear HB; clear HO679; have HB := n0_; have HO682 := n1_; clear n0_ n1_; clear ho hb hg hat)))
          go_meet
          case rel => exact ⟨_, (y680), H', ⟨by first | omega | exact Nat.le_refl _⟩, ⟨by (with_reducible repeat (first | apply Kd.R_alloc | apply Kd.R_drewN | apply Kd.R_drew)); exact HO682.out⟩, ⟨by repeat (first | (with_reducible first | exact HB.out | apply below_alloc | apply pw_below_drewN | apply below_drew1) | exact HB.out)⟩⟩
        · rw [if_neg c10] at H
          exact absurd H (by simp)
      · rw [if_neg c9] at H
        have c9b0 : decide ((t677.length : Int) < t674) = false := decide_eq_false c9
        clear c9
        (first | rw [c9b0] | (simp only [i64_w, i32_w]; rw [c9b0]) | skip)
        have H' := Aside0.mk H
        clear H
        go_wp2
        repeat (go_quiet (fail); try go_wp2)
        go_meet
        case rel => exact ⟨_, (t677), H', ⟨by first | omega | exact Nat.le_refl _⟩, ⟨by (with_reducible repeat (first | apply Kd.R_alloc | apply Kd.R_drewN | apply Kd.R_drew)); exact HO679.out⟩, ⟨by repeat (first | (with_reducible first | exact HB.out | apply below_alloc | apply pw_below_drewN | apply below_drew1) | exact HB.out)⟩⟩
    case rest =>
      clear HC5
      try clear c1
      try clear p2
      try clear c3
      try clear c3b0
      try clear c3b1
      try clear c5
      try clear c9
      try clear c9b0
      try clear c10
      obtain ⟨kq, x0_4, HA, HJ4, HO_0, HB⟩ := hcut
      cases kq with
      | zero => exact absurd HA.out (by simp [vinculumref09_Put.j0])
      | succ kj4 =>
        have H := HA.out
        clear HA
        simp only [vinculumref09_Put.j0] at H
        have H' := Aside0.mk H
        clear H
        go_wp2
        repeat (go_quiet (fail); try go_wp2)
        go_loopg [7, 8] kj4 (fun kq v7 v8 w' => ∃ (x7_2 : Int) (x8_2 : Int), v7 = .int .i64 x7_2 ∧ v8 = .int .i64 x8_2 ∧ Aside0 (vinculumref09_Put.l0 kq x0_4 t674 t675 x7_2 x8_2 = some (r1, r2)) ∧ Aside0 (kq ≤ kj4) ∧ Aside0 (Kd.R k42 42 w' w.heap.size (fun _ => True) u0 x0_4) ∧ Aside0 (Below w.heap.size w w'))
        case atStart => exact ⟨(1), (0), (by first | rfl | (simp; done) | (simp [*]; done)), (by first | rfl | (simp; done) | (simp [*]; done)), H', ⟨Nat.le_refl _⟩, ⟨by (with_reducible repeat (first | apply Kd.R_alloc | apply Kd.R_drewN | apply Kd.R_drew)); exact HO_0.out⟩, ⟨by repeat (first | (with_reducible first | exact HB.out | apply below_alloc | apply pw_below_drewN | apply below_drew1) | exact HB.out)⟩⟩
        case round =>
          clear H'
          try clear c1
          try clear p2
          try clear c3
          try clear c3b0
          try clear c3b1
          try clear c5
          try clear c9
          try clear c9b0
          try clear c10
          try clear p2
          obtain ⟨x7_2, x8_2, rfl, rfl, HA, HK2, HO_0, HB⟩ := hrel
          cases gk with
          | zero => exact absurd HA.out (by simp [vinculumref09_Put.l0])
          | succ k2 =>
            have H := HA.out
            clear HA
            simp only [vinculumref09_Put.l0] at H
            by_cases c12 : (wrap64 (2 * x7_2)) ≤ t674
            · rw [if_pos c12] at H
              have c12b0 : decide ((wrap64 (2 * x7_2)) ≤ t674) = true := decide_eq_true c12
              clear c12
              have H' := Aside0.mk H
              clear H
              go_wp2
              repeat (go_quiet (fail); try go_wp2)
              go_roundg k2
              case measure => have := HJ4.out; have := HK2.out; omega
              case rel => exact ⟨(wrap64 (2 * x7_2)), (wrap64 (x8_2 + 1)), (by first | rfl | (simp; done) | (simp [*]; done)), (by first | rfl | (simp; done) | (simp [*]; done)), H', ⟨by have := HJ4.out; have := HK2.out; omega⟩, ⟨by (with_reducible repeat (first | apply Kd.R_alloc | apply Kd.R_drewN | apply Kd.R_drew)); exact HO_0.out⟩, ⟨by repeat (first | (with_reducible first | exact HB.out | apply below_alloc | apply pw_below_drewN | apply below_drew1) | exact HB.out)⟩⟩
            · rw [if_neg c12] at H
              have c12b0 : decide ((wrap64 (2 * x7_2)) ≤ t674) = false := decide_eq_false c12
              clear c12
              obtain ⟨y683, hy683⟩ : ∃ y_ : List Int, y_ = (([4, wrap64 ((wrap64 (16 + (wrap64 (8 * t674)))) + (wrap64 (2 * t675))), 0, wrap64 (2 * t674), wrap64 (2 * x7_2), x8_2, wrap64 ((wrap64 (2 * t674)) - (wrap64 (2 * x7_2)))] : List Int)) := ⟨_, rfl⟩
              replace H : (vinculumref09_Put.l1 k2 x0_4 t674 (⟨#[]⟩ : ByteArray) y683 0) = some (r1, r2) := by first | (rw [hy683]; with_reducible exact H) | (have H2_ := (Option.bind_some _ _).symm.trans H; rw [hy683]; with_reducible exact H2_) | (have H2_ := (Option.bind_some _ _).symm.trans H; with_reducible exact H2_) | with_reducible exact H | (rw [hy683]; exact H) | exact H
              have Ny683 := Aside0.mk hy683
              clear hy683
              have H' := Aside0.mk H
              clear H
              go_wp2_with (first | ((with_reducible refine gate_dst (N := 64) rfl ?_); refine Kd.R_lit (Kd.int .i64) _ 3 ?hg (N := 64) ?hd (xs := ([4, wrap64 ((wrap64 (16 + (wrap64 (8 * t674)))) + (wrap64 (2 * t675))), 0, wrap64 (2 * t674), wrap64 (2 * x7_2), x8_2, wrap64 ((wrap64 (2 * t674)) - (wrap64 (2 * x7_2)))] : List Int)) (inner := [.int .i64 4, .int .i64 (wrap64 ((wrap64 (16 + (wrap64 (8 * t674)))) + (wrap64 (2 * t675)))), .int .i64 0, .int .i64 (wrap64 (2 * t674)), .int .i64 (wrap64 (2 * x7_2)), .int .i64 x8_2, .int .i64 (wrap64 ((wrap64 (2 * t674)) - (wrap64 (2 * x7_2))))]) (ok := fun _ => True) (okp := fun _ => True) ?hr ?hp (fun _ hk => hk) trivial (Below.refl _ _) (Nat.le_refl _) (by simp) ?_; (case hd => rfl); (case hg => rfl); (case hr => first | (go_simp; done) | (go_simp; rfl)); (case hp => exact (Reps.one (show Kd.M (Kd.int .i64) _ _ _ 4 [.int .i64 4] from rfl) (Reps.one (show Kd.M (Kd.int .i64) _ _ _ (wrap64 ((wrap64 (16 + (wrap64 (8 * t674)))) + (wrap64 (2 * t675)))) [.int .i64 (wrap64 ((wrap64 (16 + (wrap64 (8 * t674)))) + (wrap64 (2 * t675))))] from rfl) (Reps.one (show Kd.M (Kd.int .i64) _ _ _ 0 [.int .i64 0] from rfl) (Reps.one (show Kd.M (Kd.int .i64) _ _ _ (wrap64 (2 * t674)) [.int .i64 (wrap64 (2 * t674))] from rfl) (Reps.one (show Kd.M (Kd.int .i64) _ _ _ (wrap64 (2 * x7_2)) [.int .i64 (wrap64 (2 * x7_2))] from rfl) (Reps.one (show Kd.M (Kd.int .i64) _ _ _ x8_2 [.int .i64 x8_2] from rfl) (Reps.one (show Kd.M (Kd.int .i64) _ _ _ (wrap64 ((wrap64 (2 * t674)) - (wrap64 (2 * x7_2)))) [.int .i64 (wrap64 ((wrap64 (2 * t674)) - (wrap64 (2 * x7_2))))] from rfl) (Reps.none _ _))))))))); intro v684 w13 ho14 hb hg_ hnew_; clear hg_ hnew_; (first | rw [← Ny683.out] at ho14 | (simp only [Int.reduceToNat] at ho14; rw [← Ny683.out] at ho14)); have n0_ := Aside0.mk (Kd.R_below (by (with_reducible repeat (first | apply Kd.R_alloc | apply Kd.R_drewN | apply Kd.R_drew)); exact HO_0.out) hb); have n1_ := Aside0.mk (Kd.R_lower ho14 (below_size (by repeat (first | (with_reducible first | exact HB.out | apply below_alloc | apply pw_below_drewN | apply below_drew1) | exact HB.out)))); have n2_ := Aside0.mk (below_step (by repeat (first | (with_reducible first | exact HB.out | apply below_alloc | apply pw_below_drewN | apply below_drew1) | exact HB.out)) hb); clear HO_0; clear HB; have HO_0 := n0_; have HO685 := n1_; have HB := n2_; clear n0_ n1_ n2_; clear hb ho14))
              repeat (go_quiet (first | ((with_reducible refine gate_dst (N := 64) rfl ?_); refine Kd.R_lit (Kd.int .i64) _ 3 ?hg (N := 64) ?hd (xs := ([4, wrap64 ((wrap64 (16 + (wrap64 (8 * t674)))) + (wrap64 (2 * t675))), 0, wrap64 (2 * t674), wrap64 (2 * x7_2), x8_2, wrap64 ((wrap64 (2 * t674)) - (wrap64 (2 * x7_2)))] : List Int)) (inner := [.int .i64 4, .int .i64 (wrap64 ((wrap64 (16 + (wrap64 (8 * t674)))) + (wrap64 (2 * t675)))), .int .i64 0, .int .i64 (wrap64 (2 * t674)), .int .i64 (wrap64 (2 * x7_2)), .int .i64 x8_2, .int .i64 (wrap64 ((wrap64 (2 * t674)) - (wrap64 (2 * x7_2))))]) (ok := fun _ => True) (okp := fun _ => True) ?hr ?hp (fun _ hk => hk) trivial (Below.refl _ _) (Nat.le_refl _) (by simp) ?_; (case hd => rfl); (case hg => rfl); (case hr => first | (go_simp; done) | (go_simp; rfl)); (case hp => exact (Reps.one (show Kd.M (Kd.int .i64) _ _ _ 4 [.int .i64 4] from rfl) (Reps.one (show Kd.M (Kd.int .i64) _ _ _ (wrap64 ((wrap64 (16 + (wrap64 (8 * t674)))) + (wrap64 (2 * t675)))) [.int .i64 (wrap64 ((wrap64 (16 + (wrap64 (8 * t674)))) + (wrap64 (2 * t675))))] from rfl) (Reps.one (show Kd.M (Kd.int .i64) _ _ _ 0 [.int .i64 0] from rfl) (Reps.one (show Kd.M (Kd.int .i64) _ _ _ (wrap64 (2 * t674)) [.int .i64 (wrap64 (2 * t674))] from rfl) (Reps.one (show Kd.M (Kd.int .i64) _ _ _ (wrap64 (2 * x7_2)) [.int .i64 (wrap64 (2 * x7_2))] from rfl) (Reps.one (show Kd.M (Kd.int .i64) _ _ _ x8_2 [.int .i64 x8_2] from rfl) (Reps.one (show Kd.M (Kd.int .i64) _ _ _ (wrap64 ((wrap64 (2 * t674)) - (wrap64 (2 * x7_2)))) [.int .i64 (wrap64 ((wrap64 (2 * t674)) - (wrap64 (2 * x7_2))))] from rfl) (Reps.none _ _))))))))); intro v684 w13 ho14 hb hg_ hnew_; clear hg_ hnew_; (first | rw [← Ny683.out] at ho14 | (simp only [Int.reduceToNat] at ho14; rw [← Ny683.out] at ho14)); have n0_ := Aside0.mk (Kd.R_below (by (with_reducible repeat (first | apply Kd.R_alloc | apply Kd.R_drewN | apply Kd.R_drew)); exact HO_0.out) hb); have n1_ := Aside0.mk (Kd.R_lower ho14 (below_size (by repeat (first | (with_reducible first | exact HB.out | apply below_alloc | apply pw_below_drewN | apply below_drew1) | exact HB.out)))); have n2_ := Aside0.mk (below_step (by repeat (first | (with_reducible first | exact HB.out | apply below_alloc | apply pw_below_drewN | apply below_drew1) | exact HB.out)) hb); clear HO_0; clear HB; have HO_0 := n0_; have HO685 := n1_; have HB := n2_; clear n0_ n1_ n2_; clear hb ho14)); try go_wp2_with (first | ((with_reducible refine gate_dst (N := 64) rfl ?_); refine Kd.R_lit (Kd.int .i64) _ 3 ?hg (N := 64) ?hd (xs := ([4, wrap64 ((wrap64 (16 + (wrap64 (8 * t674)))) + (wrap64 (2 * t675))), 0, wrap64 (2 * t674), wrap64 (2 * x7_2), x8_2, wrap64 ((wrap64 (2 * t674)) - (wrap64 (2 * x7_2)))] : List Int)) (inner := [.int .i64 4, .int .i64 (wrap64 ((wrap64 (16 + (wrap64 (8 * t674)))) + (wrap64 (2 * t675)))), .int .i64 0, .int .i64 (wrap64 (2 * t674)), .int .i64 (wrap64 (2 * x7_2)), .int .i64 x8_2, .int .i64 (wrap64 ((wrap64 (2 * t674)) - (wrap64 (2 * x7_2))))]) (ok := fun _ => True) (okp := fun _ => True) ?hr ?hp (fun _ hk => hk) trivial (Below.refl _ _) (Nat.le_refl _) (by simp) ?_; (case hd => rfl); (case hg => rfl); (case hr => first | (go_simp; done) | (go_simp; rfl)); (case hp => exact (Reps.one (show Kd.M (Kd.int .i64) _ _ _ 4 [.int .i64 4] from rfl) (Reps.one (show Kd.M (Kd.int .i64) _ _ _ (wrap64 ((wrap64 (16 + (wrap64 (8 * t674)))) + (wrap64 (2 * t675)))) [.int .i64 (wrap64 ((wrap64 (16 + (wrap64 (8 * t674)))) + (wrap64 (2 * t675))))] from rfl) (Reps.one (show Kd.M (Kd.int .i64) _ _ _ 0 [.int .i64 0] from rfl) (Reps.one (show Kd.M (Kd.int .i64) _ _ _ (wrap64 (2 * t674)) [.int .i64 (wrap64 (2 * t674))] from rfl) (Reps.one (show Kd.M (Kd.int .i64) _ _ _ (wrap64 (2 * x7_2)) [.int .i64 (wrap64 (2 * x7_2))] from rfl) (Reps.one (show Kd.M (Kd.int .i64) _ _ _ x8_2 [.int .i64 x8_2] from rfl) (Reps.one (show Kd.M (Kd.int .i64) _ _ _ (wrap64 ((wrap64 (2 * t674)) - (wrap64 (2 * x7_2)))) [.int .i64 (wrap64 ((wrap64 (2 * t674)) - (wrap64 (2 * x7_2))))] from rfl) (Reps.none _ _))))))))); intro v684 w13 ho14 hb hg_ hnew_; clear hg_ hnew_; (first | rw [← Ny683.out] at ho14 | (simp only [Int.reduceToNat] at ho14; rw [← Ny683.out] at ho14)); have n0_ := Aside0.mk (Kd.R_below (by (with_reducible repeat (first | apply Kd.R_alloc | apply Kd.R_drewN | apply Kd.R_drew)); exact HO_0.out) hb); have n1_ := Aside0.mk (Kd.R_lower ho14 (below_size (by repeat (first | (with_reducible first | exact HB.out | apply below_alloc | apply pw_below_drewN | apply below_drew1) | exact HB.out)))); have n2_ := Aside0.mk (below_step (by repeat (first | (with_reducible first | exact HB.out | apply below_alloc | apply pw_below_drewN | apply below_drew1) | exact HB.out)) hb); clear HO_0; clear HB; have HO_0 := n0_; have HO685 := n1_; have HB := n2_; clear n0_ n1_ n2_; clear hb ho14)))
              go_loopg [9, 11] k2 (fun kq v9 v11 w' => ∃ (x9_3 : ByteArray) (x11_3 : Int), v9 = .string x9_3 ∧ v11 = .int .i64 x11_3 ∧ Aside0 (vinculumref09_Put.l1 kq x0_4 t674 x9_3 y683 x11_3 = some (r1, r2)) ∧ Aside0 (kq ≤ k2) ∧ Aside0 (Kd.R k42 42 w' w.heap.size (fun _ => True) u0 x0_4) ∧ Aside0 (Kd.R (Kd.int .i64) 3 w' w.heap.size (fun _ => True) v684 y683) ∧ Aside0 (Below w.heap.size w w'))
              case atStart => exact ⟨((⟨#[]⟩ : ByteArray)), (0), (by first | rfl | (simp; done) | (simp [*]; done)), (by first | rfl | (simp; done) | (simp [*]; done)), H', ⟨Nat.le_refl _⟩, ⟨by (with_reducible repeat (first | apply Kd.R_alloc | apply Kd.R_drewN | apply Kd.R_drew)); exact HO_0.out⟩, ⟨by (with_reducible repeat (first | apply Kd.R_alloc | apply Kd.R_drewN | apply Kd.R_drew)); exact HO685.out⟩, ⟨by repeat (first | (with_reducible first | exact HB.out | apply below_alloc | apply pw_below_drewN | apply below_drew1) | exact HB.out)⟩⟩
              case round =>
                clear H'
                try clear c1
                try clear p2
                try clear c3
                try clear c3b0
                try clear c3b1
                try clear c5
                try clear p6
                try clear c9
                try clear c9b0
                try clear c10
                try clear c12
                try clear c12b0
                try clear p2
                obtain ⟨x9_3, x11_3, rfl, rfl, HA, HK3, HO_0, HO_10, HB⟩ := hrel
                cases gk with
                | zero => exact absurd HA.out (by simp [vinculumref09_Put.l1])
                | succ k3 =>
                  have H := HA.out
                  clear HA
                  simp only [vinculumref09_Put.l1] at H
                  by_cases c15 : x11_3 < (y683.length : Int)
                  · rw [if_pos c15] at H
                    have c15b0 : decide (x11_3 < (y683.length : Int)) = true := decide_eq_true c15
                    clear c15
                    by_cases c16 : 0 ≤ x11_3
                    · rw [if_pos c16] at H
                      have c16b0 : decide (0 ≤ x11_3) = true := decide_eq_true c16
                      clear c16
                      replace H := Option.bind_eq_some_iff.mp H
                      obtain ⟨t687, A170, H⟩ := H
                      replace H : (if x9_3.size + t687.size ≤ 9223372036854775807 then (vinculumref09_Put.l1 k3 x0_4 t674 (x9_3 ++ t687) y683 (wrap64 (x11_3 + 1))) else (none)) = some (r1, r2) := H
                      have A17 := Aside0.mk A170
                      clear A170
                      by_cases c18 : x9_3.size + t687.size ≤ 9223372036854775807
                      · rw [if_pos c18] at H
                        have c18b0 := eq_true c18
                        have c18b1 : decide (x9_3.size + t687.size ≤ 9223372036854775807) = true := decide_eq_true c18
                        try have c18b2 : (9223372036854775807 < x9_3.size + t687.size) = False := eq_false (Nat.not_lt.2 c18)
                        have H' := Aside0.mk H
                        clear H
                        obtain ⟨Ao19, co19, eo19⟩ := Kd.R_slice HO_10.out
                        subst eo19
                        have p686 : 0 ≤ (x11_3 : Int) := of_decide_eq_true (by first | (with_reducible assumption) | assumption)
                        have q686 : x11_3 < (y683.length : Int) := of_decide_eq_true (by first | (with_reducible assumption) | assumption)
                        obtain ⟨ad686, e686, hx686_0⟩ := Kd.at_int (Kd.R_reads' HO_10.out).2.2 x11_3 p686 q686
                        cases e686
                        replace p686 := eq_true p686
                        replace q686 := eq_true q686
                        go_wp2_with (first | (go_at_call 23; (with_reducible refine (vinculumref03_Bytes.calls k3 (rd y683 x11_3) 2 t687 _ A17.out).mono ?_); rintro e w20 ⟨rfl, hb⟩; have n0_ := Aside0.mk (Kd.R_below (by (with_reducible repeat (first | apply Kd.R_alloc | apply Kd.R_drewN | apply Kd.R_drew)); exact HO_0.out) hb); have n1_ := Aside0.mk (Kd.R_below (by (with_reducible repeat (first | apply Kd.R_alloc | apply Kd.R_drewN | apply Kd.R_drew)); exact HO_10.out) hb); have n2_ := Aside0.mk (below_step (by repeat (first | (with_reducible first | exact HB.out | apply below_alloc | apply pw_below_drewN | apply below_drew1) | exact HB.out)) hb); clear HO_0; clear HO_10; clear HB; have HO_0 := n0_; have HO_10 := n1_; have HB := n2_; clear n0_ n1_ n2_; (try clear hb); (try clear hb2); (try clear hk); (try clear hi)))
                        repeat (go_quiet (first | (go_at_call 23; (with_reducible refine (vinculumref03_Bytes.calls k3 (rd y683 x11_3) 2 t687 _ A17.out).mono ?_); rintro e w20 ⟨rfl, hb⟩; have n0_ := Aside0.mk (Kd.R_below (by (with_reducible repeat (first | apply Kd.R_alloc | apply Kd.R_drewN | apply Kd.R_drew)); exact HO_0.out) hb); have n1_ := Aside0.mk (Kd.R_below (by (with_reducible repeat (first | apply Kd.R_alloc | apply Kd.R_drewN | apply Kd.R_drew)); exact HO_10.out) hb); have n2_ := Aside0.mk (below_step (by repeat (first | (with_reducible first | exact HB.out | apply below_alloc | apply pw_below_drewN | apply below_drew1) | exact HB.out)) hb); clear HO_0; clear HO_10; clear HB; have HO_0 := n0_; have HO_10 := n1_; have HB := n2_; clear n0_ n1_ n2_; (try clear hb); (try clear hb2); (try clear hk); (try clear hi))); try go_wp2_with (first | (go_at_call 23; (with_reducible refine (vinculumref03_Bytes.calls k3 (rd y683 x11_3) 2 t687 _ A17.out).mono ?_); rintro e w20 ⟨rfl, hb⟩; have n0_ := Aside0.mk (Kd.R_below (by (with_reducible repeat (first | apply Kd.R_alloc | apply Kd.R_drewN | apply Kd.R_drew)); exact HO_0.out) hb); have n1_ := Aside0.mk (Kd.R_below (by (with_reducible repeat (first | apply Kd.R_alloc | apply Kd.R_drewN | apply Kd.R_drew)); exact HO_10.out) hb); have n2_ := Aside0.mk (below_step (by repeat (first | (with_reducible first | exact HB.out | apply below_alloc | apply pw_below_drewN | apply below_drew1) | exact HB.out)) hb); clear HO_0; clear HO_10; clear HB; have HO_0 := n0_; have HO_10 := n1_; have HB := n2_; clear n0_ n1_ n2_; (try clear hb); (try clear hb2); (try clear hk); (try clear hi))))
                        go_roundg k3
                        case measure => have := HJ4.out; have := HK2.out; have := HK3.out; omega
                        case rel => exact ⟨(x9_3 ++ t687), (wrap64 (x11_3 + 1)), (by first | rfl | (simp; done) | (simp [*]; done)), (by first | rfl | (simp; done) | (simp [*]; done)), H', ⟨by have := HJ4.out; have := HK2.out; have := HK3.out; omega⟩, ⟨by (with_reducible repeat (first | apply Kd.R_alloc | apply Kd.R_drewN | apply Kd.R_drew)); exact HO_0.out⟩, ⟨by (with_reducible repeat (first | apply Kd.R_alloc | apply Kd.R_drewN | apply Kd.R_drew)); exact HO_10.out⟩, ⟨by repeat (first | (with_reducible first | exact HB.out | apply below_alloc | apply pw_below_drewN | apply below_drew1) | exact HB.out)⟩⟩
                      · rw [if_neg c18] at H
                        exact absurd H (by simp)
                    · rw [if_neg c16] at H
                      exact absurd H (by simp)
                  · rw [if_neg c15] at H
                    have c15b0 : decide (x11_3 < (y683.length : Int)) = false := decide_eq_false c15
                    clear c15
                    have H' := Aside0.mk H
                    clear H
                    obtain ⟨Ao21, co21, eo21⟩ := Kd.R_slice HO_10.out
                    subst eo21
                    go_wp2
                    repeat (go_quiet (fail); try go_wp2)
                    go_loopg [9, 12] k3 (fun kq v9 v12 w' => ∃ (x9_4 : ByteArray) (x12_4 : Int), v9 = .string x9_4 ∧ v12 = .int .i64 x12_4 ∧ Aside0 (vinculumref09_Put.l2 kq x0_4 t674 x9_4 x12_4 = some (r1, r2)) ∧ Aside0 (kq ≤ k3) ∧ Aside0 (Kd.R k42 42 w' w.heap.size (fun _ => True) u0 x0_4) ∧ Aside0 (Below w.heap.size w w'))
                    case atStart => exact ⟨(x9_3), (0), (by first | rfl | (simp; done) | (simp [*]; done)), (by first | rfl | (simp; done) | (simp [*]; done)), H', ⟨Nat.le_refl _⟩, ⟨by (with_reducible repeat (first | apply Kd.R_alloc | apply Kd.R_drewN | apply Kd.R_drew)); exact HO_0.out⟩, ⟨by repeat (first | (with_reducible first | exact HB.out | apply below_alloc | apply pw_below_drewN | apply below_drew1) | exact HB.out)⟩⟩
                    case round =>
                      clear H'
                      try clear c1
                      try clear p2
                      try clear c3
                      try clear c3b0
                      try clear c3b1
                      try clear c5
                      try clear p6
                      try clear q6
                      try clear hx6
                      try clear c9
                      try clear c9b0
                      try clear c10
                      try clear c12
                      try clear c12b0
                      try clear c15
                      try clear c15b0
                      try clear c16
                      try clear c16b0
                      try clear c18
                      try clear c18b0
                      try clear c18b1
                      try clear c18b2
                      try clear hx686_0
                      try clear p2
                      try clear p6
                      try clear p686
                      try clear q686
                      obtain ⟨x9_4, x12_4, rfl, rfl, HA, HK4, HO_0, HB⟩ := hrel
                      cases gk with
                      | zero => exact absurd HA.out (by simp [vinculumref09_Put.l2])
                      | succ k4 =>
                        have H := HA.out
                        clear HA
                        simp only [vinculumref09_Put.l2] at H
                        by_cases c22 : x12_4 < t674
                        · rw [if_pos c22] at H
                          have c22b0 : decide (x12_4 < t674) = true := decide_eq_true c22
                          clear c22
                          by_cases c23 : 0 ≤ x12_4
                          · rw [if_pos c23] at H
                            have c23b0 : decide (0 ≤ x12_4) = true := decide_eq_true c23
                            clear c23
                            by_cases c24 : x12_4 < (x0_4.length : Int)
                            · rw [if_pos c24] at H
                              have c24b0 : decide (x12_4 < (x0_4.length : Int)) = true := decide_eq_true c24
                              clear c24
                              replace H := Option.bind_eq_some_iff.mp H
                              obtain ⟨t689, A250, H⟩ := H
                              replace H : (if x9_4.size + t689.size ≤ 9223372036854775807 then (vinculumref09_Put.l2 k4 x0_4 t674 (x9_4 ++ t689) (wrap64 (x12_4 + 1))) else (none)) = some (r1, r2) := H
                              have A25 := Aside0.mk A250
                              clear A250
                              by_cases c26 : x9_4.size + t689.size ≤ 9223372036854775807
                              · rw [if_pos c26] at H
                                have c26b0 := eq_true c26
                                have c26b1 : decide (x9_4.size + t689.size ≤ 9223372036854775807) = true := decide_eq_true c26
                                try have c26b2 : (9223372036854775807 < x9_4.size + t689.size) = False := eq_false (Nat.not_lt.2 c26)
                                have H' := Aside0.mk H
                                clear H
                                obtain ⟨Ao27, co27, eo27⟩ := Kd.R_slice HO_0.out
                                subst eo27
                                have p688 : 0 ≤ (x12_4 : Int) := of_decide_eq_true (by first | (with_reducible assumption) | assumption)
                                have q688 : x12_4 < (x0_4.length : Int) := of_decide_eq_true (by first | (with_reducible assumption) | assumption)
                                obtain ⟨ad688, e688, hx688_0, hx688_1, hx688_2, hx688_3⟩ := at_T42 (Kd.R_reads' HO_0.out).2.2 x12_4 p688 q688
                                cases e688
                                replace p688 := eq_true p688
                                replace q688 := eq_true q688
                                go_wp2_with (first | (go_at_call 23; (with_reducible refine (vinculumref03_Bytes.calls k4 ((rd_T42 x0_4 x12_4).f1) 2 t689 _ A25.out).mono ?_); rintro e w28 ⟨rfl, hb⟩; have n0_ := Aside0.mk (Kd.R_below (by (with_reducible repeat (first | apply Kd.R_alloc | apply Kd.R_drewN | apply Kd.R_drew)); exact HO_0.out) hb); have n1_ := Aside0.mk (below_step (by repeat (first | (with_reducible first | exact HB.out | apply below_alloc | apply pw_below_drewN | apply below_drew1) | exact HB.out)) hb); clear HO_0; clear HB; have HO_0 := n0_; have HB := n1_; clear n0_ n1_; (try clear hb); (try clear hb2); (try clear hk); (try clear hi)))
                                repeat (go_quiet (first | (go_at_call 23; (with_reducible refine (vinculumref03_Bytes.calls k4 ((rd_T42 x0_4 x12_4).f1) 2 t689 _ A25.out).mono ?_); rintro e w28 ⟨rfl, hb⟩; have n0_ := Aside0.mk (Kd.R_below (by (with_reducible repeat (first | apply Kd.R_alloc | apply Kd.R_drewN | apply Kd.R_drew)); exact HO_0.out) hb); have n1_ := Aside0.mk (below_step (by repeat (first | (with_reducible first | exact HB.out | apply below_alloc | apply pw_below_drewN | apply below_drew1) | exact HB.out)) hb); clear HO_0; clear HB; have HO_0 := n0_; have HB := n1_; clear n0_ n1_; (try clear hb); (try clear hb2); (try clear hk); (try clear hi))); try go_wp2_with (first | (go_at_call 23; (with_reducible refine (vinculumref03_Bytes.calls k4 ((rd_T42 x0_4 x12_4).f1) 2 t689 _ A25.out).mono ?_); rintro e w28 ⟨rfl, hb⟩; have n0_ := Aside0.mk (Kd.R_below (by (with_reducible repeat (first | apply Kd.R_alloc | apply Kd.R_drewN | apply Kd.R_drew)); exact HO_0.out) hb); have n1_ := Aside0.mk (below_step (by repeat (first | (with_reducible first | exact HB.out | apply below_alloc | apply pw_below_drewN | apply below_drew1) | exact HB.out)) hb); clear HO_0; clear HB; have HO_0 := n0_; have HB := n1_; clear n0_ n1_; (try clear hb); (try clear hb2); (try clear hk); (try clear hi))))
                                go_roundg k4
                                case measure => have := HJ4.out; have := HK2.out; have := HK3.out; have := HK4.out; omega
                                case rel => exact ⟨(x9_4 ++ t689), (wrap64 (x12_4 + 1)), (by first | rfl | (simp; done) | (simp [*]; done)), (by first | rfl | (simp; done) | (simp [*]; done)), H', ⟨by have := HJ4.out; have := HK2.out; have := HK3.out; have := HK4.out; omega⟩, ⟨by (with_reducible repeat (first | apply Kd.R_alloc | apply Kd.R_drewN | apply Kd.R_drew)); exact HO_0.out⟩, ⟨by repeat (first | (with_reducible first | exact HB.out | apply below_alloc | apply pw_below_drewN | apply below_drew1) | exact HB.out)⟩⟩
                              · rw [if_neg c26] at H
                                exact absurd H (by simp)
                            · rw [if_neg c24] at H
                              exact absurd H (by simp)
                          · rw [if_neg c23] at H
                            exact absurd H (by simp)
                        · rw [if_neg c22] at H
                          have c22b0 : decide (x12_4 < t674) = false := decide_eq_false c22
                          clear c22
                          by_cases c29 : x9_4.size + 2 ≤ 9223372036854775807
                          · rw [if_pos c29] at H
                            have c29b0 := eq_true c29
                            have c29b1 : decide (x9_4.size + 2 ≤ 9223372036854775807) = true := decide_eq_true c29
                            try have c29b2 : (9223372036854775807 < x9_4.size + 2) = False := eq_false (Nat.not_lt.2 c29)
                            have H' := Aside0.mk H
                            clear H
                            go_wp2
                            repeat (go_quiet (fail); try go_wp2)
                            go_loopg [9, 13] k4 (fun kq v9 v13 w' => ∃ (x9_5 : ByteArray) (x13_5 : Int), v9 = .string x9_5 ∧ v13 = .int .i64 x13_5 ∧ Aside0 (vinculumref09_Put.l3 kq x0_4 t674 x9_5 x13_5 = some (r1, r2)) ∧ Aside0 (kq ≤ k4) ∧ Aside0 (Kd.R k42 42 w' w.heap.size (fun _ => True) u0 x0_4) ∧ Aside0 (Below w.heap.size w w'))
                            case atStart => exact ⟨(x9_4 ++ (⟨#[0, 0]⟩ : ByteArray)), (0), (by first | rfl | (simp; done) | (simp [*]; done)), (by first | rfl | (simp; done) | (simp [*]; done)), H', ⟨Nat.le_refl _⟩, ⟨by (with_reducible repeat (first | apply Kd.R_alloc | apply Kd.R_drewN | apply Kd.R_drew)); exact HO_0.out⟩, ⟨by repeat (first | (with_reducible first | exact HB.out | apply below_alloc | apply pw_below_drewN | apply below_drew1) | exact HB.out)⟩⟩
                            case round =>
                              clear H'
                              try clear c1
                              try clear c2
                              try clear p2
                              try clear c3
                              try clear c3b0
                              try clear c3b1
                              try clear c5
                              try clear p6
                              try clear q6
                              try clear hx6
                              try clear c9
                              try clear c9b0
                              try clear c10
                              try clear c12
                              try clear c12b0
                              try clear c15
                              try clear c15b0
                              try clear c16
                              try clear c16b0
                              try clear c18
                              try clear c18b0
                              try clear c18b1
                              try clear c18b2
                              try clear c22
                              try clear c22b0
                              try clear c23
                              try clear c23b0
                              try clear c24
                              try clear c24b0
                              try clear c26
                              try clear c26b0
                              try clear c26b1
                              try clear c26b2
                              try clear c29
                              try clear c29b0
                              try clear c29b1
                              try clear c29b2
                              try clear hx686_0
                              try clear hx688_0
                              try clear hx688_1
                              try clear hx688_2
                              try clear hx688_3
                              try clear p2
                              try clear p6
                              try clear p686
                              try clear p688
                              try clear q6
                              try clear q686
                              try clear q688
                              obtain ⟨x9_5, x13_5, rfl, rfl, HA, HK5, HO_0, HB⟩ := hrel
                              cases gk with
                              | zero => exact absurd HA.out (by simp [vinculumref09_Put.l3])
                              | succ k5 =>
                                have H := HA.out
                                clear HA
                                simp only [vinculumref09_Put.l3] at H
                                by_cases c30 : x13_5 < t674
                                · rw [if_pos c30] at H
                                  have c30b0 : decide (x13_5 < t674) = true := decide_eq_true c30
                                  clear c30
                                  by_cases c31 : 0 ≤ x13_5
                                  · rw [if_pos c31] at H
                                    have c31b0 : decide (0 ≤ x13_5) = true := decide_eq_true c31
                                    clear c31
                                    by_cases c32 : x13_5 < (x0_4.length : Int)
                                    · rw [if_pos c32] at H
                                      have c32b0 : decide (x13_5 < (x0_4.length : Int)) = true := decide_eq_true c32
                                      clear c32
                                      replace H := Option.bind_eq_some_iff.mp H
                                      obtain ⟨t691, A330, H⟩ := H
                                      replace H : (if x9_5.size + t691.size ≤ 9223372036854775807 then (vinculumref09_Put.l3 k5 x0_4 t674 (x9_5 ++ t691) (wrap64 (x13_5 + 1))) else (none)) = some (r1, r2) := H
                                      have A33 := Aside0.mk A330
                                      clear A330
                                      by_cases c34 : x9_5.size + t691.size ≤ 9223372036854775807
                                      · rw [if_pos c34] at H
                                        have c34b0 := eq_true c34
                                        have c34b1 : decide (x9_5.size + t691.size ≤ 9223372036854775807) = true := decide_eq_true c34
                                        try have c34b2 : (9223372036854775807 < x9_5.size + t691.size) = False := eq_false (Nat.not_lt.2 c34)
                                        have H' := Aside0.mk H
                                        clear H
                                        obtain ⟨Ao35, co35, eo35⟩ := Kd.R_slice HO_0.out
                                        subst eo35
                                        have p690 : 0 ≤ (x13_5 : Int) := of_decide_eq_true (by first | (with_reducible assumption) | assumption)
                                        have q690 : x13_5 < (x0_4.length : Int) := of_decide_eq_true (by first | (with_reducible assumption) | assumption)
                                        obtain ⟨ad690, e690, hx690_0, hx690_1, hx690_2, hx690_3⟩ := at_T42 (Kd.R_reads' HO_0.out).2.2 x13_5 p690 q690
                                        cases e690
                                        replace p690 := eq_true p690
                                        replace q690 := eq_true q690
                                        go_wp2_with (first | (go_at_call 23; (with_reducible refine (vinculumref03_Bytes.calls k5 ((rd_T42 x0_4 x13_5).f0) 2 t691 _ A33.out).mono ?_); rintro e w36 ⟨rfl, hb⟩; have n0_ := Aside0.mk (Kd.R_below (by (with_reducible repeat (first | apply Kd.R_alloc | apply Kd.R_drewN | apply Kd.R_drew)); exact HO_0.out) hb); have n1_ := Aside0.mk (below_step (by repeat (first | (with_reducible first | exact HB.out | apply below_alloc | apply pw_below_drewN | apply below_drew1) | exact HB.out)) hb); clear HO_0; clear HB; have HO_0 := n0_; have HB := n1_; clear n0_ n1_; (try clear hb); (try clear hb2); (try clear hk); (try clear hi)))
                                        repeat (go_quiet (first | (go_at_call 23; (with_reducible refine (vinculumref03_Bytes.calls k5 ((rd_T42 x0_4 x13_5).f0) 2 t691 _ A33.out).mono ?_); rintro e w36 ⟨rfl, hb⟩; have n0_ := Aside0.mk (Kd.R_below (by (with_reducible repeat (first | apply Kd.R_alloc | apply Kd.R_drewN | apply Kd.R_drew)); exact HO_0.out) hb); have n1_ := Aside0.mk (below_step (by repeat (first | (with_reducible first | exact HB.out | apply below_alloc | apply pw_below_drewN | apply below_drew1) | exact HB.out)) hb); clear HO_0; clear HB; have HO_0 := n0_; have HB := n1_; clear n0_ n1_; (try clear hb); (try clear hb2); (try clear hk); (try clear hi))); try go_wp2_with (first | (go_at_call 23; (with_reducible refine (vinculumref03_Bytes.calls k5 ((rd_T42 x0_4 x13_5).f0) 2 t691 _ A33.out).mono ?_); rintro e w36 ⟨rfl, hb⟩; have n0_ := Aside0.mk (Kd.R_below (by (with_reducible repeat (first | apply Kd.R_alloc | apply Kd.R_drewN | apply Kd.R_drew)); exact HO_0.out) hb); have n1_ := Aside0.mk (below_step (by repeat (first | (with_reducible first | exact HB.out | apply below_alloc | apply pw_below_drewN | apply below_drew1) | exact HB.out)) hb); clear HO_0; clear HB; have HO_0 := n0_; have HB := n1_; clear n0_ n1_; (try clear hb); (try clear hb2); (try clear hk); (try clear hi))))
                                        go_roundg k5
                                        case measure => have := HJ4.out; have := HK2.out; have := HK3.out; have := HK4.out; have := HK5.out; omega
                                        case rel => exact ⟨(x9_5 ++ t691), (wrap64 (x13_5 + 1)), (by first | rfl | (simp; done) | (simp [*]; done)), (by first | rfl | (simp; done) | (simp [*]; done)), H', ⟨by have := HJ4.out; have := HK2.out; have := HK3.out; have := HK4.out; have := HK5.out; omega⟩, ⟨by (with_reducible repeat (first | apply Kd.R_alloc | apply Kd.R_drewN | apply Kd.R_drew)); exact HO_0.out⟩, ⟨by repeat (first | (with_reducible first | exact HB.out | apply below_alloc | apply pw_below_drewN | apply below_drew1) | exact HB.out)⟩⟩
                                      · rw [if_neg c34] at H
                                        exact absurd H (by simp)
                                    · rw [if_neg c32] at H
                                      exact absurd H (by simp)
                                  · rw [if_neg c31] at H
                                    exact absurd H (by simp)
                                · rw [if_neg c30] at H
                                  have c30b0 : decide (x13_5 < t674) = false := decide_eq_false c30
                                  clear c30
                                  have H' := Aside0.mk H
                                  clear H
                                  go_wp2
                                  repeat (go_quiet (fail); try go_wp2)
                                  go_loopg [9, 14] k5 (fun kq v9 v14 w' => ∃ (x9_6 : ByteArray) (x14_6 : Int), v9 = .string x9_6 ∧ v14 = .int .i64 x14_6 ∧ Aside0 (vinculumref09_Put.l4 kq x0_4 t674 x9_6 x14_6 = some (r1, r2)) ∧ Aside0 (kq ≤ k5) ∧ Aside0 (Kd.R k42 42 w' w.heap.size (fun _ => True) u0 x0_4) ∧ Aside0 (Below w.heap.size w w'))
                                  case atStart => exact ⟨(x9_5), (0), (by first | rfl | (simp; done) | (simp [*]; done)), (by first | rfl | (simp; done) | (simp [*]; done)), H', ⟨Nat.le_refl _⟩, ⟨by (with_reducible repeat (first | apply Kd.R_alloc | apply Kd.R_drewN | apply Kd.R_drew)); exact HO_0.out⟩, ⟨by repeat (first | (with_reducible first | exact HB.out | apply below_alloc | apply pw_below_drewN | apply below_drew1) | exact HB.out)⟩⟩
                                  case round =>
                                    clear H'
                                    try clear c1
                                    try clear c2
                                    try clear p2
                                    try clear c3
                                    try clear c3b0
                                    try clear c3b1
                                    try clear c5
                                    try clear p6
                                    try clear q6
                                    try clear hx6
                                    try clear c9
                                    try clear c9b0
                                    try clear c10
                                    try clear c12
                                    try clear c12b0
                                    try clear c15
                                    try clear c15b0
                                    try clear c16
                                    try clear c16b0
                                    try clear c18
                                    try clear c18b0
                                    try clear c18b1
                                    try clear c18b2
                                    try clear c22
                                    try clear c22b0
                                    try clear c23
                                    try clear c23b0
                                    try clear c24
                                    try clear c24b0
                                    try clear c26
                                    try clear c26b0
                                    try clear c26b1
                                    try clear c26b2
                                    try clear c29
                                    try clear c29b0
                                    try clear c29b1
                                    try clear c29b2
                                    try clear c30
                                    try clear c30b0
                                    try clear c31
                                    try clear c31b0
                                    try clear c32
                                    try clear c32b0
                                    try clear c34
                                    try clear c34b0
                                    try clear c34b1
                                    try clear c34b2
                                    try clear hx686_0
                                    try clear hx688_0
                                    try clear hx688_1
                                    try clear hx688_2
                                    try clear hx688_3
                                    try clear hx690_0
                                    try clear hx690_1
                                    try clear hx690_2
                                    try clear hx690_3
                                    try clear p2
                                    try clear p6
                                    try clear p686
                                    try clear p688
                                    try clear p690
                                    try clear q6
                                    try clear q686
                                    try clear q688
                                    try clear q690
                                    obtain ⟨x9_6, x14_6, rfl, rfl, HA, HK6, HO_0, HB⟩ := hrel
                                    cases gk with
                                    | zero => exact absurd HA.out (by simp [vinculumref09_Put.l4])
                                    | succ k6 =>
                                      have H := HA.out
                                      clear HA
                                      simp only [vinculumref09_Put.l4] at H
                                      by_cases c37 : x14_6 < t674
                                      · rw [if_pos c37] at H
                                        have c37b0 : decide (x14_6 < t674) = true := decide_eq_true c37
                                        clear c37
                                        by_cases c38 : 0 ≤ x14_6
                                        · rw [if_pos c38] at H
                                          have c38b0 : decide (0 ≤ x14_6) = true := decide_eq_true c38
                                          clear c38
                                          by_cases c39 : x14_6 < (x0_4.length : Int)
                                          · rw [if_pos c39] at H
                                            have c39b0 : decide (x14_6 < (x0_4.length : Int)) = true := decide_eq_true c39
                                            clear c39
                                            replace H := Option.bind_eq_some_iff.mp H
                                            obtain ⟨t693, A400, H⟩ := H
                                            replace H : (if t693 = true then ((vinculumref03_Bytes.f k6 0 2).bind fun t694 => (if x9_6.size + t694.size ≤ 9223372036854775807 then (vinculumref09_Put.l4 k6 x0_4 t674 (x9_6 ++ t694) (wrap64 (x14_6 + 1))) else (none))) else ((vinculumref09_plane.f (wrap64 ((wrap64 (65536 + ((rd_T42 x0_4 x14_6).f2))) - ((rd_T42 x0_4 x14_6).f0)))).bind fun t697 => ((vinculumref03_Bytes.f k6 t697 2).bind fun t698 => (if x9_6.size + t698.size ≤ 9223372036854775807 then (vinculumref09_Put.l4 k6 x0_4 t674 (x9_6 ++ t698) (wrap64 (x14_6 + 1))) else (none))))) = some (r1, r2) := H
                                            have A40 := Aside0.mk A400
                                            clear A400
                                            by_cases c41 : t693 = true
                                            · subst c41
                                              have H1 : ((vinculumref03_Bytes.f k6 0 2).bind fun t694 => (if x9_6.size + t694.size ≤ 9223372036854775807 then (vinculumref09_Put.l4 k6 x0_4 t674 (x9_6 ++ t694) (wrap64 (x14_6 + 1))) else (none))) = some (r1, r2) := by rw [if_pos rfl] at H; exact H
                                              clear H
                                              have H := H1
                                              clear H1
                                              replace H := Option.bind_eq_some_iff.mp H
                                              obtain ⟨t694, A420, H⟩ := H
                                              replace H : (if x9_6.size + t694.size ≤ 9223372036854775807 then (vinculumref09_Put.l4 k6 x0_4 t674 (x9_6 ++ t694) (wrap64 (x14_6 + 1))) else (none)) = some (r1, r2) := H
                                              have A42 := Aside0.mk A420
                                              clear A420
                                              by_cases c43 : x9_6.size + t694.size ≤ 9223372036854775807
                                              · rw [if_pos c43] at H
                                                have c43b0 := eq_true c43
                                                have c43b1 : decide (x9_6.size + t694.size ≤ 9223372036854775807) = true := decide_eq_true c43
                                                try have c43b2 : (9223372036854775807 < x9_6.size + t694.size) = False := eq_false (Nat.not_lt.2 c43)
                                                have H' := Aside0.mk H
                                                clear H
                                                obtain ⟨Ao44, co44, eo44⟩ := Kd.R_slice HO_0.out
                                                subst eo44
                                                have p692 : 0 ≤ (x14_6 : Int) := of_decide_eq_true (by first | (with_reducible assumption) | assumption)
                                                have q692 : x14_6 < (x0_4.length : Int) := of_decide_eq_true (by first | (with_reducible assumption) | assumption)
                                                obtain ⟨ad692, e692, hx692_0, hx692_1, hx692_2, hx692_3⟩ := at_T42 (Kd.R_reads' HO_0.out).2.2 x14_6 p692 q692
                                                cases e692
                                                replace p692 := eq_true p692
                                                replace q692 := eq_true q692
                                                go_wp2_with (first | (go_at_call 100; (with_reducible refine (vinculumref09_row.calls ((rd_T42 x0_4 x14_6).f0) ((rd_T42 x0_4 x14_6).f1) ((rd_T42 x0_4 x14_6).f2) ((rd_T42 x0_4 x14_6).f3) true _ A40.out).mono ?_); rintro e w45 ⟨rfl, hb⟩; have n0_ := Aside0.mk (Kd.R_below (by (with_reducible repeat (first | apply Kd.R_alloc | apply Kd.R_drewN | apply Kd.R_drew)); exact HO_0.out) hb); have n1_ := Aside0.mk (below_step (by repeat (first | (with_reducible first | exact HB.out | apply below_alloc | apply pw_below_drewN | apply below_drew1) | exact HB.out)) hb); clear HO_0; clear HB; have HO_0 := n0_; have HB := n1_; clear n0_ n1_; (try clear hb); (try clear hb2); (try clear hk); (try clear hi)) | (go_at_call 23; (with_reducible refine (vinculumref03_Bytes.calls k6 0 2 t694 _ A42.out).mono ?_); rintro e w46 ⟨rfl, hb⟩; have n0_ := Aside0.mk (Kd.R_below (by (with_reducible repeat (first | apply Kd.R_alloc | apply Kd.R_drewN | apply Kd.R_drew)); exact HO_0.out) hb); have n1_ := Aside0.mk (below_step (by repeat (first | (with_reducible first | exact HB.out | apply below_alloc | apply pw_below_drewN | apply below_drew1) | exact HB.out)) hb); clear HO_0; clear HB; have HO_0 := n0_; have HB := n1_; clear n0_ n1_; (try clear hb); (try clear hb2); (try clear hk); (try clear hi)))
                                                repeat (go_quiet (first | (go_at_call 100; (with_reducible refine (vinculumref09_row.calls ((rd_T42 x0_4 x14_6).f0) ((rd_T42 x0_4 x14_6).f1) ((rd_T42 x0_4 x14_6).f2) ((rd_T42 x0_4 x14_6).f3) true _ A40.out).mono ?_); rintro e w45 ⟨rfl, hb⟩; have n0_ := Aside0.mk (Kd.R_below (by (with_reducible repeat (first | apply Kd.R_alloc | apply Kd.R_drewN | apply Kd.R_drew)); exact HO_0.out) hb); have n1_ := Aside0.mk (below_step (by repeat (first | (with_reducible first | exact HB.out | apply below_alloc | apply pw_below_drewN | apply below_drew1) | exact HB.out)) hb); clear HO_0; clear HB; have HO_0 := n0_; have HB := n1_; clear n0_ n1_; (try clear hb); (try clear hb2); (try clear hk); (try clear hi)) | (go_at_call 23; (with_reducible refine (vinculumref03_Bytes.calls k6 0 2 t694 _ A42.out).mono ?_); rintro e w46 ⟨rfl, hb⟩; have n0_ := Aside0.mk (Kd.R_below (by (with_reducible repeat (first | apply Kd.R_alloc | apply Kd.R_drewN | apply Kd.R_drew)); exact HO_0.out) hb); have n1_ := Aside0.mk (below_step (by repeat (first | (with_reducible first | exact HB.out | apply below_alloc | apply pw_below_drewN | apply below_drew1) | exact HB.out)) hb); clear HO_0; clear HB; have HO_0 := n0_; have HB := n1_; clear n0_ n1_; (try clear hb); (try clear hb2); (try clear hk); (try clear hi))); try go_wp2_with (first | (go_at_call 100; (with_reducible refine (vinculumref09_row.calls ((rd_T42 x0_4 x14_6).f0) ((rd_T42 x0_4 x14_6).f1) ((rd_T42 x0_4 x14_6).f2) ((rd_T42 x0_4 x14_6).f3) true _ A40.out).mono ?_); rintro e w45 ⟨rfl, hb⟩; have n0_ := Aside0.mk (Kd.R_below (by (with_reducible repeat (first | apply Kd.R_alloc | apply Kd.R_drewN | apply Kd.R_drew)); exact HO_0.out) hb); have n1_ := Aside0.mk (below_step (by repeat (first | (with_reducible first | exact HB.out | apply below_alloc | apply pw_below_drewN | apply below_drew1) | exact HB.out)) hb); clear HO_0; clear HB; have HO_0 := n0_; have HB := n1_; clear n0_ n1_; (try clear hb); (try clear hb2); (try clear hk); (try clear hi)) | (go_at_call 23; (with_reducible refine (vinculumref03_Bytes.calls k6 0 2 t694 _ A42.out).mono ?_); rintro e w46 ⟨rfl, hb⟩; have n0_ := Aside0.mk (Kd.R_below (by (with_reducible repeat (first | apply Kd.R_alloc | apply Kd.R_drewN | apply Kd.R_drew)); exact HO_0.out) hb); have n1_ := Aside0.mk (below_step (by repeat (first | (with_reducible first | exact HB.out | apply below_alloc | apply pw_below_drewN | apply below_drew1) | exact HB.out)) hb); clear HO_0; clear HB; have HO_0 := n0_; have HB := n1_; clear n0_ n1_; (try clear hb); (try clear hb2); (try clear hk); (try clear hi))))
                                                go_roundg k6
                                                case measure => have := HJ4.out; have := HK2.out; have := HK3.out; have := HK4.out; have := HK5.out; have := HK6.out; omega
                                                case rel => exact ⟨(x9_6 ++ t694), (wrap64 (x14_6 + 1)), (by first | rfl | (simp; done) | (simp [*]; done)), (by first | rfl | (simp; done) | (simp [*]; done)), H', ⟨by have := HJ4.out; have := HK2.out; have := HK3.out; have := HK4.out; have := HK5.out; have := HK6.out; omega⟩, ⟨by (with_reducible repeat (first | apply Kd.R_alloc | apply Kd.R_drewN | apply Kd.R_drew)); exact HO_0.out⟩, ⟨by repeat (first | (with_reducible first | exact HB.out | apply below_alloc | apply pw_below_drewN | apply below_drew1) | exact HB.out)⟩⟩
                                              · rw [if_neg c43] at H
                                                exact absurd H (by simp)
                                            · replace c41 := Bool.eq_false_iff.mpr c41
                                              subst c41
                                              have H1 : ((vinculumref09_plane.f (wrap64 ((wrap64 (65536 + ((rd_T42 x0_4 x14_6).f2))) - ((rd_T42 x0_4 x14_6).f0)))).bind fun t697 => ((vinculumref03_Bytes.f k6 t697 2).bind fun t698 => (if x9_6.size + t698.size ≤ 9223372036854775807 then (vinculumref09_Put.l4 k6 x0_4 t674 (x9_6 ++ t698) (wrap64 (x14_6 + 1))) else (none)))) = some (r1, r2) := by rw [if_neg (show ¬ (false = true) by decide)] at H; exact H
                                              clear H
                                              have H := H1
                                              clear H1
                                              replace H := Option.bind_eq_some_iff.mp H
                                              obtain ⟨t697, A470, H⟩ := H
                                              replace H : ((vinculumref03_Bytes.f k6 t697 2).bind fun t698 => (if x9_6.size + t698.size ≤ 9223372036854775807 then (vinculumref09_Put.l4 k6 x0_4 t674 (x9_6 ++ t698) (wrap64 (x14_6 + 1))) else (none))) = some (r1, r2) := H
                                              have A47 := Aside0.mk A470
                                              clear A470
                                              replace H := Option.bind_eq_some_iff.mp H
                                              obtain ⟨t698, A480, H⟩ := H
                                              replace H : (if x9_6.size + t698.size ≤ 9223372036854775807 then (vinculumref09_Put.l4 k6 x0_4 t674 (x9_6 ++ t698) (wrap64 (x14_6 + 1))) else (none)) = some (r1, r2) := H
                                              have A48 := Aside0.mk A480
                                              clear A480
                                              by_cases c49 : x9_6.size + t698.size ≤ 9223372036854775807
                                              · rw [if_pos c49] at H
                                                have c49b0 := eq_true c49
                                                have c49b1 : decide (x9_6.size + t698.size ≤ 9223372036854775807) = true := decide_eq_true c49
                                                try have c49b2 : (9223372036854775807 < x9_6.size + t698.size) = False := eq_false (Nat.not_lt.2 c49)
                                                have H' := Aside0.mk H
                                                clear H
                                                obtain ⟨Ao50, co50, eo50⟩ := Kd.R_slice HO_0.out
                                                subst eo50
                                                have p692 : 0 ≤ (x14_6 : Int) := of_decide_eq_true (by first | (with_reducible assumption) | assumption)
                                                have q692 : x14_6 < (x0_4.length : Int) := of_decide_eq_true (by first | (with_reducible assumption) | assumption)
                                                obtain ⟨ad692, e692, hx692_0, hx692_1, hx692_2, hx692_3⟩ := at_T42 (Kd.R_reads' HO_0.out).2.2 x14_6 p692 q692
                                                cases e692
                                                replace p692 := eq_true p692
                                                replace q692 := eq_true q692
                                                go_wp2_with (first | (go_at_call 100; (with_reducible refine (vinculumref09_row.calls ((rd_T42 x0_4 x14_6).f0) ((rd_T42 x0_4 x14_6).f1) ((rd_T42 x0_4 x14_6).f2) ((rd_T42 x0_4 x14_6).f3) false _ A40.out).mono ?_); rintro e w51 ⟨rfl, hb⟩; have n0_ := Aside0.mk (Kd.R_below (by (with_reducible repeat (first | apply Kd.R_alloc | apply Kd.R_drewN | apply Kd.R_drew)); exact HO_0.out) hb); have n1_ := Aside0.mk (below_step (by repeat (first | (with_reducible first | exact HB.out | apply below_alloc | apply pw_below_drewN | apply below_drew1) | exact HB.out)) hb); clear HO_0; clear HB; have HO_0 := n0_; have HB := n1_; clear n0_ n1_; (try clear hb); (try clear hb2); (try clear hk); (try clear hi); have p695 : 0 ≤ (x14_6 : Int) := of_decide_eq_true (by first | (with_reducible assumption) | assumption); have q695 : x14_6 < (x0_4.length : Int) := of_decide_eq_true (by first | (with_reducible assumption) | assumption); obtain ⟨ad695, e695, hx695_0, hx695_1, hx695_2, hx695_3⟩ := at_T42 (Kd.R_reads' HO_0.out).2.2 x14_6 p695 q695; obtain rfl : ad692 = ad695 := (by injection e695); replace p695 := eq_true p695; replace q695 := eq_true q695; have p696 : 0 ≤ (x14_6 : Int) := of_decide_eq_true (by first | (with_reducible assumption) | assumption); have q696 : x14_6 < (x0_4.length : Int) := of_decide_eq_true (by first | (with_reducible assumption) | assumption); obtain ⟨ad696, e696, hx696_0, hx696_1, hx696_2, hx696_3⟩ := at_T42 (Kd.R_reads' HO_0.out).2.2 x14_6 p696 q696; obtain rfl : ad692 = ad696 := (by injection e696); replace p696 := eq_true p696; replace q696 := eq_true q696) | (go_at_call 101; (with_reducible refine (vinculumref09_plane.calls (wrap64 ((wrap64 (65536 + ((rd_T42 x0_4 x14_6).f2))) - ((rd_T42 x0_4 x14_6).f0))) t697 _ A47.out).mono ?_); rintro e w' ⟨rfl, ⟨nd, rfl⟩⟩; (try first | exact ⟨rfl, _, World.drewN_drewN _ _ _⟩ | exact ⟨rfl, _, Eq.trans (World.drewN_drewN _ _ _) (congrArg (World.drewN _) (Nat.add_assoc _ _ _))⟩)) | (go_at_call 23; (with_reducible refine (vinculumref03_Bytes.calls k6 t697 2 t698 _ A48.out).mono ?_); rintro e w52 ⟨rfl, hb⟩; have n0_ := Aside0.mk (Kd.R_below (by (with_reducible repeat (first | apply Kd.R_alloc | apply Kd.R_drewN | apply Kd.R_drew)); exact HO_0.out) hb); have n1_ := Aside0.mk (below_step (by repeat (first | (with_reducible first | exact HB.out | apply below_alloc | apply pw_below_drewN | apply below_drew1) | exact HB.out)) hb); clear HO_0; clear HB; have HO_0 := n0_; have HB := n1_; clear n0_ n1_; (try clear hb); (try clear hb2); (try clear hk); (try clear hi)))
                                                repeat (go_quiet (first | (go_at_call 100; (with_reducible refine (vinculumref09_row.calls ((rd_T42 x0_4 x14_6).f0) ((rd_T42 x0_4 x14_6).f1) ((rd_T42 x0_4 x14_6).f2) ((rd_T42 x0_4 x14_6).f3) false _ A40.out).mono ?_); rintro e w51 ⟨rfl, hb⟩; have n0_ := Aside0.mk (Kd.R_below (by (with_reducible repeat (first | apply Kd.R_alloc | apply Kd.R_drewN | apply Kd.R_drew)); exact HO_0.out) hb); have n1_ := Aside0.mk (below_step (by repeat (first | (with_reducible first | exact HB.out | apply below_alloc | apply pw_below_drewN | apply below_drew1) | exact HB.out)) hb); clear HO_0; clear HB; have HO_0 := n0_; have HB := n1_; clear n0_ n1_; (try clear hb); (try clear hb2); (try clear hk); (try clear hi); have p695 : 0 ≤ (x14_6 : Int) := of_decide_eq_true (by first | (with_reducible assumption) | assumption); have q695 : x14_6 < (x0_4.length : Int) := of_decide_eq_true (by first | (with_reducible assumption) | assumption); obtain ⟨ad695, e695, hx695_0, hx695_1, hx695_2, hx695_3⟩ := at_T42 (Kd.R_reads' HO_0.out).2.2 x14_6 p695 q695; obtain rfl : ad692 = ad695 := (by injection e695); replace p695 := eq_true p695; replace q695 := eq_true q695; have p696 : 0 ≤ (x14_6 : Int) := of_decide_eq_true (by first | (with_reducible assumption) | assumption); have q696 : x14_6 < (x0_4.length : Int) := of_decide_eq_true (by first | (with_reducible assumption) | assumption); obtain ⟨ad696, e696, hx696_0, hx696_1, hx696_2, hx696_3⟩ := at_T42 (Kd.R_reads' HO_0.out).2.2 x14_6 p696 q696; obtain rfl : ad692 = ad696 := (by injection e696); replace p696 := eq_true p696; replace q696 := eq_true q696) | (go_at_call 101; (with_reducible refine (vinculumref09_plane.calls (wrap64 ((wrap64 (65536 + ((rd_T42 x0_4 x14_6).f2))) - ((rd_T42 x0_4 x14_6).f0))) t697 _ A47.out).mono ?_); rintro e w' ⟨rfl, ⟨nd, rfl⟩⟩; (try first | exact ⟨rfl, _, World.drewN_drewN _ _ _⟩ | exact ⟨rfl, _, Eq.trans (World.drewN_drewN _ _ _) (congrArg (World.drewN _) (Nat.add_assoc _ _ _))⟩)) | (go_at_call 23; (with_reducible refine (vinculumref03_Bytes.calls k6 t697 2 t698 _ A48.out).mono ?_); rintro e w52 ⟨rfl, hb⟩; have n0_ := Aside0.mk (Kd.R_below (by (with_reducible repeat (first | apply Kd.R_alloc | apply Kd.R_drewN | apply Kd.R_drew)); exact HO_0.out) hb); have n1_ := Aside0.mk (below_step (by repeat (first | (with_reducible first | exact HB.out | apply below_alloc | apply pw_below_drewN | apply below_drew1) | exact HB.out)) hb); clear HO_0; clear HB; have HO_0 := n0_; have HB := n1_; clear n0_ n1_; (try clear hb); (try clear hb2); (try clear hk); (try clear hi))); try go_wp2_with (first | (go_at_call 100; (with_reducible refine (vinculumref09_row.calls ((rd_T42 x0_4 x14_6).f0) ((rd_T42 x0_4 x14_6).f1) ((rd_T42 x0_4 x14_6).f2) ((rd_T42 x0_4 x14_6).f3) false _ A40.out).mono ?_); rintro e w51 ⟨rfl, hb⟩; have n0_ := Aside0.mk (Kd.R_below (by (with_reducible repeat (first | apply Kd.R_alloc | apply Kd.R_drewN | apply Kd.R_drew)); exact HO_0.out) hb); have n1_ := Aside0.mk (below_step (by repeat (first | (with_reducible first | exact HB.out | apply below_alloc | apply pw_below_drewN | apply below_drew1) | exact HB.out)) hb); clear HO_0; clear HB; have HO_0 := n0_; have HB := n1_; clear n0_ n1_; (try clear hb); (try clear hb2); (try clear hk); (try clear hi); have p695 : 0 ≤ (x14_6 : Int) := of_decide_eq_true (by first | (with_reducible assumption) | assumption); have q695 : x14_6 < (x0_4.length : Int) := of_decide_eq_true (by first | (with_reducible assumption) | assumption); obtain ⟨ad695, e695, hx695_0, hx695_1, hx695_2, hx695_3⟩ := at_T42 (Kd.R_reads' HO_0.out).2.2 x14_6 p695 q695; obtain rfl : ad692 = ad695 := (by injection e695); replace p695 := eq_true p695; replace q695 := eq_true q695; have p696 : 0 ≤ (x14_6 : Int) := of_decide_eq_true (by first | (with_reducible assumption) | assumption); have q696 : x14_6 < (x0_4.length : Int) := of_decide_eq_true (by first | (with_reducible assumption) | assumption); obtain ⟨ad696, e696, hx696_0, hx696_1, hx696_2, hx696_3⟩ := at_T42 (Kd.R_reads' HO_0.out).2.2 x14_6 p696 q696; obtain rfl : ad692 = ad696 := (by injection e696); replace p696 := eq_true p696; replace q696 := eq_true q696) | (go_at_call 101; (with_reducible refine (vinculumref09_plane.calls (wrap64 ((wrap64 (65536 + ((rd_T42 x0_4 x14_6).f2))) - ((rd_T42 x0_4 x14_6).f0))) t697 _ A47.out).mono ?_); rintro e w' ⟨rfl, ⟨nd, rfl⟩⟩; (try first | exact ⟨rfl, _, World.drewN_drewN _ _ _⟩ | exact ⟨rfl, _, Eq.trans (World.drewN_drewN _ _ _) (congrArg (World.drewN _) (Nat.add_assoc _ _ _))⟩)) | (go_at_call 23; (with_reducible refine (vinculumref03_Bytes.calls k6 t697 2 t698 _ A48.out).mono ?_); rintro e w52 ⟨rfl, hb⟩; have n0_ := Aside0.mk (Kd.R_below (by (with_reducible repeat (first | apply Kd.R_alloc | apply Kd.R_drewN | apply Kd.R_drew)); exact HO_0.out) hb); have n1_ := Aside0.mk (below_step (by repeat (first | (with_reducible first | exact HB.out | apply below_alloc | apply pw_below_drewN | apply below_drew1) | exact HB.out)) hb); clear HO_0; clear HB; have HO_0 := n0_; have HB := n1_; clear n0_ n1_; (try clear hb); (try clear hb2); (try clear hk); (try clear hi))))
                                                go_roundg k6
                                                case measure => have := HJ4.out; have := HK2.out; have := HK3.out; have := HK4.out; have := HK5.out; have := HK6.out; omega
                                                case rel => exact ⟨(x9_6 ++ t698), (wrap64 (x14_6 + 1)), (by first | rfl | (simp; done) | (simp [*]; done)), (by first | rfl | (simp; done) | (simp [*]; done)), H', ⟨by have := HJ4.out; have := HK2.out; have := HK3.out; have := HK4.out; have := HK5.out; have := HK6.out; omega⟩, ⟨by (with_reducible repeat (first | apply Kd.R_alloc | apply Kd.R_drewN | apply Kd.R_drew)); exact HO_0.out⟩, ⟨by repeat (first | (with_reducible first | exact HB.out | apply below_alloc | apply pw_below_drewN | apply below_drew1) | exact HB.out)⟩⟩
                                              · rw [if_neg c49] at H
                                                exact absurd H (by simp)
                                          · rw [if_neg c39] at H
                                            exact absurd H (by simp)
                                        · rw [if_neg c38] at H
                                          exact absurd H (by simp)
                                      · rw [if_neg c37] at H
                                        have c37b0 : decide (x14_6 < t674) = false := decide_eq_false c37
                                        clear c37
                                        have H' := Aside0.mk H
                                        clear H
                                        go_wp2
                                        repeat (go_quiet (fail); try go_wp2)
                                        go_loopg [9, 16, 17, 18] k6 (fun kq v9 v16 v17 v18 w' => ∃ (x9_7 : ByteArray) (x16_7 : Int) (x17_7 : ByteArray) (x18_7 : Int), v9 = .string x9_7 ∧ v16 = .int .i64 x16_7 ∧ v17 = .string x17_7 ∧ v18 = .int .i64 x18_7 ∧ Aside0 (vinculumref09_Put.l5 kq x0_4 t674 x9_7 x16_7 x17_7 x18_7 = some (r1, r2)) ∧ Aside0 (kq ≤ k6) ∧ Aside0 (Kd.R k42 42 w' w.heap.size (fun _ => True) u0 x0_4) ∧ Aside0 (Below w.heap.size w w'))
                                        case atStart => exact ⟨(x9_6), (0), ((⟨#[]⟩ : ByteArray)), (0), (by first | rfl | (simp; done) | (simp [*]; done)), (by first | rfl | (simp; done) | (simp [*]; done)), (by first | rfl | (simp; done) | (simp [*]; done)), (by first | rfl | (simp; done) | (simp [*]; done)), H', ⟨Nat.le_refl _⟩, ⟨by (with_reducible repeat (first | apply Kd.R_alloc | apply Kd.R_drewN | apply Kd.R_drew)); exact HO_0.out⟩, ⟨by repeat (first | (with_reducible first | exact HB.out | apply below_alloc | apply pw_below_drewN | apply below_drew1) | exact HB.out)⟩⟩
                                        case round =>
                                          clear H'
                                          try clear c1
                                          try clear c2
                                          try clear p2
                                          try clear c3
                                          try clear c3b0
                                          try clear c3b1
                                          try clear c4
                                          try clear c5
                                          try clear p6
                                          try clear q6
                                          try clear hx6
                                          try clear c9
                                          try clear c9b0
                                          try clear c10
                                          try clear c12
                                          try clear c12b0
                                          try clear c15
                                          try clear c15b0
                                          try clear c16
                                          try clear c16b0
                                          try clear c18
                                          try clear c18b0
                                          try clear c18b1
                                          try clear c18b2
                                          try clear c22
                                          try clear c22b0
                                          try clear c23
                                          try clear c23b0
                                          try clear c24
                                          try clear c24b0
                                          try clear c26
                                          try clear c26b0
                                          try clear c26b1
                                          try clear c26b2
                                          try clear c29
                                          try clear c29b0
                                          try clear c29b1
                                          try clear c29b2
                                          try clear c30
                                          try clear c30b0
                                          try clear c31
                                          try clear c31b0
                                          try clear c32
                                          try clear c32b0
                                          try clear c34
                                          try clear c34b0
                                          try clear c34b1
                                          try clear c34b2
                                          try clear c37
                                          try clear c37b0
                                          try clear c38
                                          try clear c38b0
                                          try clear c39
                                          try clear c39b0
                                          try clear c41
                                          try clear c43
                                          try clear c43b0
                                          try clear c43b1
                                          try clear c43b2
                                          try clear c49
                                          try clear c49b0
                                          try clear c49b1
                                          try clear c49b2
                                          try clear c52
                                          try clear hx686_0
                                          try clear hx688_0
                                          try clear hx688_1
                                          try clear hx688_2
                                          try clear hx688_3
                                          try clear hx690_0
                                          try clear hx690_1
                                          try clear hx690_2
                                          try clear hx690_3
                                          try clear hx692_0
                                          try clear hx692_1
                                          try clear hx692_2
                                          try clear hx692_3
                                          try clear hx695_0
                                          try clear hx695_1
                                          try clear hx695_2
                                          try clear hx695_3
                                          try clear hx696_0
                                          try clear hx696_1
                                          try clear hx696_2
                                          try clear hx696_3
                                          try clear p2
                                          try clear p6
                                          try clear p686
                                          try clear p688
                                          try clear p690
                                          try clear p692
                                          try clear p695
                                          try clear p696
                                          try clear q6
                                          try clear q686
                                          try clear q688
                                          try clear q690
                                          try clear q692
                                          try clear q695
                                          try clear q696
                                          obtain ⟨x9_7, x16_7, x17_7, x18_7, rfl, rfl, rfl, rfl, HA, HK7, HO_0, HB⟩ := hrel
                                          cases gk with
                                          | zero => exact absurd HA.out (by simp [vinculumref09_Put.l5])
                                          | succ k7 =>
                                            have H := HA.out
                                            clear HA
                                            simp only [vinculumref09_Put.l5] at H
                                            by_cases c53 : x18_7 < t674
                                            · rw [if_pos c53] at H
                                              have c53b0 : decide (x18_7 < t674) = true := decide_eq_true c53
                                              clear c53
                                              by_cases c54 : 0 ≤ x18_7
                                              · rw [if_pos c54] at H
                                                have c54b0 : decide (0 ≤ x18_7) = true := decide_eq_true c54
                                                clear c54
                                                by_cases c55 : x18_7 < (x0_4.length : Int)
                                                · rw [if_pos c55] at H
                                                  have c55b0 : decide (x18_7 < (x0_4.length : Int)) = true := decide_eq_true c55
                                                  clear c55
                                                  replace H := Option.bind_eq_some_iff.mp H
                                                  obtain ⟨t700, A560, H⟩ := H
                                                  replace H : (if t700 = true then (vinculumref09_Put.l6 k7 x0_4 t674 x9_7 x16_7 x17_7 x18_7 (wrap64 ((wrap64 (2 * (wrap64 (t674 - x18_7)))) + (wrap64 (2 * x16_7)))) ((rd_T42 x0_4 x18_7).f0)) else ((vinculumref03_Bytes.f k7 0 2).bind fun t706 => (if x9_7.size + t706.size ≤ 9223372036854775807 then (vinculumref09_Put.l5 k7 x0_4 t674 (x9_7 ++ t706) x16_7 x17_7 (wrap64 (x18_7 + 1))) else (none)))) = some (r1, r2) := H
                                                  have A56 := Aside0.mk A560
                                                  clear A560
                                                  by_cases c57 : t700 = true
                                                  · subst c57
                                                    have H1 : (vinculumref09_Put.l6 k7 x0_4 t674 x9_7 x16_7 x17_7 x18_7 (wrap64 ((wrap64 (2 * (wrap64 (t674 - x18_7)))) + (wrap64 (2 * x16_7)))) ((rd_T42 x0_4 x18_7).f0)) = some (r1, r2) := by rw [if_pos rfl] at H; exact H
                                                    clear H
                                                    have H := H1
                                                    clear H1
                                                    have H' := Aside0.mk H
                                                    clear H
                                                    obtain ⟨Ao58, co58, eo58⟩ := Kd.R_slice HO_0.out
                                                    subst eo58
                                                    have p699 : 0 ≤ (x18_7 : Int) := of_decide_eq_true (by first | (with_reducible assumption) | assumption)
                                                    have q699 : x18_7 < (x0_4.length : Int) := of_decide_eq_true (by first | (with_reducible assumption) | assumption)
                                                    obtain ⟨ad699, e699, hx699_0, hx699_1, hx699_2, hx699_3⟩ := at_T42 (Kd.R_reads' HO_0.out).2.2 x18_7 p699 q699
                                                    cases e699
                                                    replace p699 := eq_true p699
                                                    replace q699 := eq_true q699
                                                    go_wp2_with (first | (go_at_call 100; (with_reducible refine (vinculumref09_row.calls ((rd_T42 x0_4 x18_7).f0) ((rd_T42 x0_4 x18_7).f1) ((rd_T42 x0_4 x18_7).f2) ((rd_T42 x0_4 x18_7).f3) true _ A56.out).mono ?_); rintro e w59 ⟨rfl, hb⟩; have n0_ := Aside0.mk (Kd.R_below (by (with_reducible repeat (first | apply Kd.R_alloc | apply Kd.R_drewN | apply Kd.R_drew)); exact HO_0.out) hb); have n1_ := Aside0.mk (below_step (by repeat (first | (with_reducible first | exact HB.out | apply below_alloc | apply pw_below_drewN | apply below_drew1) | exact HB.out)) hb); clear HO_0; clear HB; have HO_0 := n0_; have HB := n1_; clear n0_ n1_; (try clear hb); (try clear hb2); (try clear hk); (try clear hi); have p701 : 0 ≤ (x18_7 : Int) := of_decide_eq_true (by first | (with_reducible assumption) | assumption); have q701 : x18_7 < (x0_4.length : Int) := of_decide_eq_true (by first | (with_reducible assumption) | assumption); obtain ⟨ad701, e701, hx701_0, hx701_1, hx701_2, hx701_3⟩ := at_T42 (Kd.R_reads' HO_0.out).2.2 x18_7 p701 q701; obtain rfl : ad699 = ad701 := (by injection e701); replace p701 := eq_true p701; replace q701 := eq_true q701))
                                                    repeat (go_quiet (first | (go_at_call 100; (with_reducible refine (vinculumref09_row.calls ((rd_T42 x0_4 x18_7).f0) ((rd_T42 x0_4 x18_7).f1) ((rd_T42 x0_4 x18_7).f2) ((rd_T42 x0_4 x18_7).f3) true _ A56.out).mono ?_); rintro e w59 ⟨rfl, hb⟩; have n0_ := Aside0.mk (Kd.R_below (by (with_reducible repeat (first | apply Kd.R_alloc | apply Kd.R_drewN | apply Kd.R_drew)); exact HO_0.out) hb); have n1_ := Aside0.mk (below_step (by repeat (first | (with_reducible first | exact HB.out | apply below_alloc | apply pw_below_drewN | apply below_drew1) | exact HB.out)) hb); clear HO_0; clear HB; have HO_0 := n0_; have HB := n1_; clear n0_ n1_; (try clear hb); (try clear hb2); (try clear hk); (try clear hi); have p701 : 0 ≤ (x18_7 : Int) := of_decide_eq_true (by first | (with_reducible assumption) | assumption); have q701 : x18_7 < (x0_4.length : Int) := of_decide_eq_true (by first | (with_reducible assumption) | assumption); obtain ⟨ad701, e701, hx701_0, hx701_1, hx701_2, hx701_3⟩ := at_T42 (Kd.R_reads' HO_0.out).2.2 x18_7 p701 q701; obtain rfl : ad699 = ad701 := (by injection e701); replace p701 := eq_true p701; replace q701 := eq_true q701)); try go_wp2_with (first | (go_at_call 100; (with_reducible refine (vinculumref09_row.calls ((rd_T42 x0_4 x18_7).f0) ((rd_T42 x0_4 x18_7).f1) ((rd_T42 x0_4 x18_7).f2) ((rd_T42 x0_4 x18_7).f3) true _ A56.out).mono ?_); rintro e w59 ⟨rfl, hb⟩; have n0_ := Aside0.mk (Kd.R_below (by (with_reducible repeat (first | apply Kd.R_alloc | apply Kd.R_drewN | apply Kd.R_drew)); exact HO_0.out) hb); have n1_ := Aside0.mk (below_step (by repeat (first | (with_reducible first | exact HB.out | apply below_alloc | apply pw_below_drewN | apply below_drew1) | exact HB.out)) hb); clear HO_0; clear HB; have HO_0 := n0_; have HB := n1_; clear n0_ n1_; (try clear hb); (try clear hb2); (try clear hk); (try clear hi); have p701 : 0 ≤ (x18_7 : Int) := of_decide_eq_true (by first | (with_reducible assumption) | assumption); have q701 : x18_7 < (x0_4.length : Int) := of_decide_eq_true (by first | (with_reducible assumption) | assumption); obtain ⟨ad701, e701, hx701_0, hx701_1, hx701_2, hx701_3⟩ := at_T42 (Kd.R_reads' HO_0.out).2.2 x18_7 p701 q701; obtain rfl : ad699 = ad701 := (by injection e701); replace p701 := eq_true p701; replace q701 := eq_true q701)))
                                                    go_loopg [16, 17, 20] k7 (fun kq v16 v17 v20 w' => ∃ (x16_8 : Int) (x17_8 : ByteArray) (x20_8 : Int), v16 = .int .i64 x16_8 ∧ v17 = .string x17_8 ∧ v20 = .int .i64 x20_8 ∧ Aside0 (vinculumref09_Put.l6 kq x0_4 t674 x9_7 x16_8 x17_8 x18_7 (wrap64 ((wrap64 (2 * (wrap64 (t674 - x18_7)))) + (wrap64 (2 * x16_7)))) x20_8 = some (r1, r2)) ∧ Aside0 (kq ≤ k7) ∧ Aside0 (Kd.R k42 42 w' w.heap.size (fun _ => True) (.slice (some ad699) x0_4.length co58) x0_4) ∧ Aside0 (Below w.heap.size w w'))
                                                    case atStart => exact ⟨(x16_7), (x17_7), ((rd_T42 x0_4 x18_7).f0), (by first | rfl | (simp; done) | (simp [*]; done)), (by first | rfl | (simp; done) | (simp [*]; done)), (by first | rfl | (simp; done) | (simp [*]; done)), H', ⟨Nat.le_refl _⟩, ⟨by (with_reducible repeat (first | apply Kd.R_alloc | apply Kd.R_drewN | apply Kd.R_drew)); exact HO_0.out⟩, ⟨by repeat (first | (with_reducible first | exact HB.out | apply below_alloc | apply pw_below_drewN | apply below_drew1) | exact HB.out)⟩⟩
                                                    case round =>
                                                      clear H'
                                                      try clear c1
                                                      try clear c2
                                                      try clear p2
                                                      try clear c3
                                                      try clear c3b0
                                                      try clear c3b1
                                                      try clear c4
                                                      try clear c5
                                                      try clear p6
                                                      try clear q6
                                                      try clear hx6
                                                      try clear p7
                                                      try clear q7
                                                      try clear hx7
                                                      try clear c9
                                                      try clear c9b0
                                                      try clear c10
                                                      try clear c12
                                                      try clear c12b0
                                                      try clear c15
                                                      try clear c15b0
                                                      try clear c16
                                                      try clear c16b0
                                                      try clear c18
                                                      try clear c18b0
                                                      try clear c18b1
                                                      try clear c18b2
                                                      try clear c22
                                                      try clear c22b0
                                                      try clear c23
                                                      try clear c23b0
                                                      try clear c24
                                                      try clear c24b0
                                                      try clear c26
                                                      try clear c26b0
                                                      try clear c26b1
                                                      try clear c26b2
                                                      try clear c29
                                                      try clear c29b0
                                                      try clear c29b1
                                                      try clear c29b2
                                                      try clear c30
                                                      try clear c30b0
                                                      try clear c31
                                                      try clear c31b0
                                                      try clear c32
                                                      try clear c32b0
                                                      try clear c34
                                                      try clear c34b0
                                                      try clear c34b1
                                                      try clear c34b2
                                                      try clear c37
                                                      try clear c37b0
                                                      try clear c38
                                                      try clear c38b0
                                                      try clear c39
                                                      try clear c39b0
                                                      try clear c41
                                                      try clear c43
                                                      try clear c43b0
                                                      try clear c43b1
                                                      try clear c43b2
                                                      try clear c49
                                                      try clear c49b0
                                                      try clear c49b1
                                                      try clear c49b2
                                                      try clear c52
                                                      try clear c53
                                                      try clear c53b0
                                                      try clear c54
                                                      try clear c54b0
                                                      try clear c55
                                                      try clear c55b0
                                                      try clear c57
                                                      try clear hx686_0
                                                      try clear hx688_0
                                                      try clear hx688_1
                                                      try clear hx688_2
                                                      try clear hx688_3
                                                      try clear hx690_0
                                                      try clear hx690_1
                                                      try clear hx690_2
                                                      try clear hx690_3
                                                      try clear hx692_0
                                                      try clear hx692_1
                                                      try clear hx692_2
                                                      try clear hx692_3
                                                      try clear hx695_0
                                                      try clear hx695_1
                                                      try clear hx695_2
                                                      try clear hx695_3
                                                      try clear hx696_0
                                                      try clear hx696_1
                                                      try clear hx696_2
                                                      try clear hx696_3
                                                      try clear hx699_0
                                                      try clear hx699_1
                                                      try clear hx699_2
                                                      try clear hx699_3
                                                      try clear hx701_0
                                                      try clear hx701_1
                                                      try clear hx701_2
                                                      try clear hx701_3
                                                      try clear p2
                                                      try clear p6
                                                      try clear p686
                                                      try clear p688
                                                      try clear p690
                                                      try clear p692
                                                      try clear p695
                                                      try clear p696
                                                      try clear p699
                                                      try clear p701
                                                      try clear q6
                                                      try clear q686
                                                      try clear q688
                                                      try clear q690
                                                      try clear q692
                                                      try clear q695
                                                      try clear q696
                                                      try clear q699
                                                      try clear q701
                                                      obtain ⟨x16_8, x17_8, x20_8, rfl, rfl, rfl, HA, HK8, HO_0, HB⟩ := hrel
                                                      cases gk with
                                                      | zero => exact absurd HA.out (by simp [vinculumref09_Put.l6])
                                                      | succ k8 =>
                                                        have H := HA.out
                                                        clear HA
                                                        simp only [vinculumref09_Put.l6] at H
                                                        by_cases c60 : 0 ≤ x18_7
                                                        · rw [if_pos c60] at H
                                                          have c60b0 : decide (0 ≤ x18_7) = true := decide_eq_true c60
                                                          clear c60
                                                          by_cases c61 : x18_7 < (x0_4.length : Int)
                                                          · rw [if_pos c61] at H
                                                            have c61b0 : decide (x18_7 < (x0_4.length : Int)) = true := decide_eq_true c61
                                                            clear c61
                                                            by_cases c62 : x20_8 ≤ ((rd_T42 x0_4 x18_7).f1)
                                                            · rw [if_pos c62] at H
                                                              have c62b0 : decide (x20_8 ≤ ((rd_T42 x0_4 x18_7).f1)) = true := decide_eq_true c62
                                                              clear c62
                                                              replace H := Option.bind_eq_some_iff.mp H
                                                              obtain ⟨t704, A630, H⟩ := H
                                                              replace H : (if x17_8.size + t704.size ≤ 9223372036854775807 then (vinculumref09_Put.l6 k8 x0_4 t674 x9_7 (wrap64 (x16_8 + 1)) (x17_8 ++ t704) x18_7 (wrap64 ((wrap64 (2 * (wrap64 (t674 - x18_7)))) + (wrap64 (2 * x16_7)))) (wrap64 (x20_8 + 1))) else (none)) = some (r1, r2) := H
                                                              have A63 := Aside0.mk A630
                                                              clear A630
                                                              by_cases c64 : x17_8.size + t704.size ≤ 9223372036854775807
                                                              · rw [if_pos c64] at H
                                                                have c64b0 := eq_true c64
                                                                have c64b1 : decide (x17_8.size + t704.size ≤ 9223372036854775807) = true := decide_eq_true c64
                                                                try have c64b2 : (9223372036854775807 < x17_8.size + t704.size) = False := eq_false (Nat.not_lt.2 c64)
                                                                have H' := Aside0.mk H
                                                                clear H
                                                                have p702 : 0 ≤ (x18_7 : Int) := of_decide_eq_true (by first | (with_reducible assumption) | assumption)
                                                                have q702 : x18_7 < (x0_4.length : Int) := of_decide_eq_true (by first | (with_reducible assumption) | assumption)
                                                                obtain ⟨ad702, e702, hx702_0, hx702_1, hx702_2, hx702_3⟩ := at_T42 (Kd.R_reads' HO_0.out).2.2 x18_7 p702 q702
                                                                obtain rfl : ad699 = ad702 := (by injection e702)
                                                                replace p702 := eq_true p702
                                                                replace q702 := eq_true q702
                                                                have p703 : 0 ≤ (x18_7 : Int) := of_decide_eq_true (by first | (with_reducible assumption) | assumption)
                                                                have q703 : x18_7 < (x0_4.length : Int) := of_decide_eq_true (by first | (with_reducible assumption) | assumption)
                                                                obtain ⟨ad703, e703, hx703_0, hx703_1, hx703_2, hx703_3⟩ := at_T42 (Kd.R_reads' HO_0.out).2.2 x18_7 p703 q703
                                                                obtain rfl : ad699 = ad703 := (by injection e703)
                                                                replace p703 := eq_true p703
                                                                replace q703 := eq_true q703
                                                                go_wp2_with (first | (go_at_call 23; (with_reducible refine (vinculumref03_Bytes.calls k8 ((rd_T42 x0_4 x18_7).f2) 2 t704 _ A63.out).mono ?_); rintro e w65 ⟨rfl, hb⟩; have n0_ := Aside0.mk (Kd.R_below (by (with_reducible repeat (first | apply Kd.R_alloc | apply Kd.R_drewN | apply Kd.R_drew)); exact HO_0.out) hb); have n1_ := Aside0.mk (below_step (by repeat (first | (with_reducible first | exact HB.out | apply below_alloc | apply pw_below_drewN | apply below_drew1) | exact HB.out)) hb); clear HO_0; clear HB; have HO_0 := n0_; have HB := n1_; clear n0_ n1_; (try clear hb); (try clear hb2); (try clear hk); (try clear hi)))
                                                                repeat (go_quiet (first | (go_at_call 23; (with_reducible refine (vinculumref03_Bytes.calls k8 ((rd_T42 x0_4 x18_7).f2) 2 t704 _ A63.out).mono ?_); rintro e w65 ⟨rfl, hb⟩; have n0_ := Aside0.mk (Kd.R_below (by (with_reducible repeat (first | apply Kd.R_alloc | apply Kd.R_drewN | apply Kd.R_drew)); exact HO_0.out) hb); have n1_ := Aside0.mk (below_step (by repeat (first | (with_reducible first | exact HB.out | apply below_alloc | apply pw_below_drewN | apply below_drew1) | exact HB.out)) hb); clear HO_0; clear HB; have HO_0 := n0_; have HB := n1_; clear n0_ n1_; (try clear hb); (try clear hb2); (try clear hk); (try clear hi))); try go_wp2_with (first | (go_at_call 23; (with_reducible refine (vinculumref03_Bytes.calls k8 ((rd_T42 x0_4 x18_7).f2) 2 t704 _ A63.out).mono ?_); rintro e w65 ⟨rfl, hb⟩; have n0_ := Aside0.mk (Kd.R_below (by (with_reducible repeat (first | apply Kd.R_alloc | apply Kd.R_drewN | apply Kd.R_drew)); exact HO_0.out) hb); have n1_ := Aside0.mk (below_step (by repeat (first | (with_reducible first | exact HB.out | apply below_alloc | apply pw_below_drewN | apply below_drew1) | exact HB.out)) hb); clear HO_0; clear HB; have HO_0 := n0_; have HB := n1_; clear n0_ n1_; (try clear hb); (try clear hb2); (try clear hk); (try clear hi))))
                                                                go_roundg k8
                                                                case measure => have := HJ4.out; have := HK2.out; have := HK3.out; have := HK4.out; have := HK5.out; have := HK6.out; have := HK7.out; have := HK8.out; omega
                                                                case rel => exact ⟨(wrap64 (x16_8 + 1)), (x17_8 ++ t704), (wrap64 (x20_8 + 1)), (by first | rfl | (simp; done) | (simp [*]; done)), (by first | rfl | (simp; done) | (simp [*]; done)), (by first | rfl | (simp; done) | (simp [*]; done)), H', ⟨by have := HJ4.out; have := HK2.out; have := HK3.out; have := HK4.out; have := HK5.out; have := HK6.out; have := HK7.out; have := HK8.out; omega⟩, ⟨by (with_reducible repeat (first | apply Kd.R_alloc | apply Kd.R_drewN | apply Kd.R_drew)); exact HO_0.out⟩, ⟨by repeat (first | (with_reducible first | exact HB.out | apply below_alloc | apply pw_below_drewN | apply below_drew1) | exact HB.out)⟩⟩
                                                              · rw [if_neg c64] at H
                                                                exact absurd H (by simp)
                                                            · rw [if_neg c62] at H
                                                              have c62b0 : decide (x20_8 ≤ ((rd_T42 x0_4 x18_7).f1)) = false := decide_eq_false c62
                                                              clear c62
                                                              replace H := Option.bind_eq_some_iff.mp H
                                                              obtain ⟨t705, A660, H⟩ := H
                                                              replace H : (if x9_7.size + t705.size ≤ 9223372036854775807 then (vinculumref09_Put.l5 k8 x0_4 t674 (x9_7 ++ t705) x16_8 x17_8 (wrap64 (x18_7 + 1))) else (none)) = some (r1, r2) := H
                                                              have A66 := Aside0.mk A660
                                                              clear A660
                                                              by_cases c67 : x9_7.size + t705.size ≤ 9223372036854775807
                                                              · rw [if_pos c67] at H
                                                                have c67b0 := eq_true c67
                                                                have c67b1 : decide (x9_7.size + t705.size ≤ 9223372036854775807) = true := decide_eq_true c67
                                                                try have c67b2 : (9223372036854775807 < x9_7.size + t705.size) = False := eq_false (Nat.not_lt.2 c67)
                                                                have H' := Aside0.mk H
                                                                clear H
                                                                have p702 : 0 ≤ (x18_7 : Int) := of_decide_eq_true (by first | (with_reducible assumption) | assumption)
                                                                have q702 : x18_7 < (x0_4.length : Int) := of_decide_eq_true (by first | (with_reducible assumption) | assumption)
                                                                obtain ⟨ad702, e702, hx702_0, hx702_1, hx702_2, hx702_3⟩ := at_T42 (Kd.R_reads' HO_0.out).2.2 x18_7 p702 q702
                                                                obtain rfl : ad699 = ad702 := (by injection e702)
                                                                replace p702 := eq_true p702
                                                                replace q702 := eq_true q702
                                                                go_wp2_with (first | (go_at_call 23; (with_reducible refine (vinculumref03_Bytes.calls k8 (wrap64 ((wrap64 (2 * (wrap64 (t674 - x18_7)))) + (wrap64 (2 * x16_7)))) 2 t705 _ A66.out).mono ?_); rintro e w68 ⟨rfl, hb⟩; have n0_ := Aside0.mk (Kd.R_below (by (with_reducible repeat (first | apply Kd.R_alloc | apply Kd.R_drewN | apply Kd.R_drew)); exact HO_0.out) hb); have n1_ := Aside0.mk (below_step (by repeat (first | (with_reducible first | exact HB.out | apply below_alloc | apply pw_below_drewN | apply below_drew1) | exact HB.out)) hb); clear HO_0; clear HB; have HO_0 := n0_; have HB := n1_; clear n0_ n1_; (try clear hb); (try clear hb2); (try clear hk); (try clear hi)))
                                                                repeat (go_quiet (first | (go_at_call 23; (with_reducible refine (vinculumref03_Bytes.calls k8 (wrap64 ((wrap64 (2 * (wrap64 (t674 - x18_7)))) + (wrap64 (2 * x16_7)))) 2 t705 _ A66.out).mono ?_); rintro e w68 ⟨rfl, hb⟩; have n0_ := Aside0.mk (Kd.R_below (by (with_reducible repeat (first | apply Kd.R_alloc | apply Kd.R_drewN | apply Kd.R_drew)); exact HO_0.out) hb); have n1_ := Aside0.mk (below_step (by repeat (first | (with_reducible first | exact HB.out | apply below_alloc | apply pw_below_drewN | apply below_drew1) | exact HB.out)) hb); clear HO_0; clear HB; have HO_0 := n0_; have HB := n1_; clear n0_ n1_; (try clear hb); (try clear hb2); (try clear hk); (try clear hi))); try go_wp2_with (first | (go_at_call 23; (with_reducible refine (vinculumref03_Bytes.calls k8 (wrap64 ((wrap64 (2 * (wrap64 (t674 - x18_7)))) + (wrap64 (2 * x16_7)))) 2 t705 _ A66.out).mono ?_); rintro e w68 ⟨rfl, hb⟩; have n0_ := Aside0.mk (Kd.R_below (by (with_reducible repeat (first | apply Kd.R_alloc | apply Kd.R_drewN | apply Kd.R_drew)); exact HO_0.out) hb); have n1_ := Aside0.mk (below_step (by repeat (first | (with_reducible first | exact HB.out | apply below_alloc | apply pw_below_drewN | apply below_drew1) | exact HB.out)) hb); clear HO_0; clear HB; have HO_0 := n0_; have HB := n1_; clear n0_ n1_; (try clear hb); (try clear hb2); (try clear hk); (try clear hi))))
                                                                go_roundg k8
                                                                case measure => have := HJ4.out; have := HK2.out; have := HK3.out; have := HK4.out; have := HK5.out; have := HK6.out; have := HK7.out; have := HK8.out; omega
                                                                case rel => exact ⟨(x9_7 ++ t705), (x16_8), (x17_8), (wrap64 (x18_7 + 1)), (by first | rfl | (simp; done) | (simp [*]; done)), (by first | rfl | (simp; done) | (simp [*]; done)), (by first | rfl | (simp; done) | (simp [*]; done)), (by first | rfl | (simp; done) | (simp [*]; done)), H', ⟨by have := HJ4.out; have := HK2.out; have := HK3.out; have := HK4.out; have := HK5.out; have := HK6.out; have := HK7.out; have := HK8.out; omega⟩, ⟨by (with_reducible repeat (first | apply Kd.R_alloc | apply Kd.R_drewN | apply Kd.R_drew)); exact HO_0.out⟩, ⟨by repeat (first | (with_reducible first | exact HB.out | apply below_alloc | apply pw_below_drewN | apply below_drew1) | exact HB.out)⟩⟩
                                                              · rw [if_neg c67] at H
                                                                exact absurd H (by simp)
                                                          · rw [if_neg c61] at H
                                                            exact absurd H (by simp)
                                                        · rw [if_neg c60] at H
                                                          exact absurd H (by simp)
                                                  · replace c57 := Bool.eq_false_iff.mpr c57
                                                    subst c57
                                                    have H1 : ((vinculumref03_Bytes.f k7 0 2).bind fun t706 => (if x9_7.size + t706.size ≤ 9223372036854775807 then (vinculumref09_Put.l5 k7 x0_4 t674 (x9_7 ++ t706) x16_7 x17_7 (wrap64 (x18_7 + 1))) else (none))) = some (r1, r2) := by rw [if_neg (show ¬ (false = true) by decide)] at H; exact H
                                                    clear H
                                                    have H := H1
                                                    clear H1
                                                    replace H := Option.bind_eq_some_iff.mp H
                                                    obtain ⟨t706, A690, H⟩ := H
                                                    replace H : (if x9_7.size + t706.size ≤ 9223372036854775807 then (vinculumref09_Put.l5 k7 x0_4 t674 (x9_7 ++ t706) x16_7 x17_7 (wrap64 (x18_7 + 1))) else (none)) = some (r1, r2) := H
                                                    have A69 := Aside0.mk A690
                                                    clear A690
                                                    by_cases c70 : x9_7.size + t706.size ≤ 9223372036854775807
                                                    · rw [if_pos c70] at H
                                                      have c70b0 := eq_true c70
                                                      have c70b1 : decide (x9_7.size + t706.size ≤ 9223372036854775807) = true := decide_eq_true c70
                                                      try have c70b2 : (9223372036854775807 < x9_7.size + t706.size) = False := eq_false (Nat.not_lt.2 c70)
                                                      have H' := Aside0.mk H
                                                      clear H
                                                      obtain ⟨Ao71, co71, eo71⟩ := Kd.R_slice HO_0.out
                                                      subst eo71
                                                      have p699 : 0 ≤ (x18_7 : Int) := of_decide_eq_true (by first | (with_reducible assumption) | assumption)
                                                      have q699 : x18_7 < (x0_4.length : Int) := of_decide_eq_true (by first | (with_reducible assumption) | assumption)
                                                      obtain ⟨ad699, e699, hx699_0, hx699_1, hx699_2, hx699_3⟩ := at_T42 (Kd.R_reads' HO_0.out).2.2 x18_7 p699 q699
                                                      cases e699
                                                      replace p699 := eq_true p699
                                                      replace q699 := eq_true q699
                                                      go_wp2_with (first | (go_at_call 100; (with_reducible refine (vinculumref09_row.calls ((rd_T42 x0_4 x18_7).f0) ((rd_T42 x0_4 x18_7).f1) ((rd_T42 x0_4 x18_7).f2) ((rd_T42 x0_4 x18_7).f3) false _ A56.out).mono ?_); rintro e w72 ⟨rfl, hb⟩; have n0_ := Aside0.mk (Kd.R_below (by (with_reducible repeat (first | apply Kd.R_alloc | apply Kd.R_drewN | apply Kd.R_drew)); exact HO_0.out) hb); have n1_ := Aside0.mk (below_step (by repeat (first | (with_reducible first | exact HB.out | apply below_alloc | apply pw_below_drewN | apply below_drew1) | exact HB.out)) hb); clear HO_0; clear HB; have HO_0 := n0_; have HB := n1_; clear n0_ n1_; (try clear hb); (try clear hb2); (try clear hk); (try clear hi)) | (go_at_call 23; (with_reducible refine (vinculumref03_Bytes.calls k7 0 2 t706 _ A69.out).mono ?_); rintro e w73 ⟨rfl, hb⟩; have n0_ := Aside0.mk (Kd.R_below (by (with_reducible repeat (first | apply Kd.R_alloc | apply Kd.R_drewN | apply Kd.R_drew)); exact HO_0.out) hb); have n1_ := Aside0.mk (below_step (by repeat (first | (with_reducible first | exact HB.out | apply below_alloc | apply pw_below_drewN | apply below_drew1) | exact HB.out)) hb); clear HO_0; clear HB; have HO_0 := n0_; have HB := n1_; clear n0_ n1_; (try clear hb); (try clear hb2); (try clear hk); (try clear hi)))
                                                      repeat (go_quiet (first | (go_at_call 100; (with_reducible refine (vinculumref09_row.calls ((rd_T42 x0_4 x18_7).f0) ((rd_T42 x0_4 x18_7).f1) ((rd_T42 x0_4 x18_7).f2) ((rd_T42 x0_4 x18_7).f3) false _ A56.out).mono ?_); rintro e w72 ⟨rfl, hb⟩; have n0_ := Aside0.mk (Kd.R_below (by (with_reducible repeat (first | apply Kd.R_alloc | apply Kd.R_drewN | apply Kd.R_drew)); exact HO_0.out) hb); have n1_ := Aside0.mk (below_step (by repeat (first | (with_reducible first | exact HB.out | apply below_alloc | apply pw_below_drewN | apply below_drew1) | exact HB.out)) hb); clear HO_0; clear HB; have HO_0 := n0_; have HB := n1_; clear n0_ n1_; (try clear hb); (try clear hb2); (try clear hk); (try clear hi)) | (go_at_call 23; (with_reducible refine (vinculumref03_Bytes.calls k7 0 2 t706 _ A69.out).mono ?_); rintro e w73 ⟨rfl, hb⟩; have n0_ := Aside0.mk (Kd.R_below (by (with_reducible repeat (first | apply Kd.R_alloc | apply Kd.R_drewN | apply Kd.R_drew)); exact HO_0.out) hb); have n1_ := Aside0.mk (below_step (by repeat (first | (with_reducible first | exact HB.out | apply below_alloc | apply pw_below_drewN | apply below_drew1) | exact HB.out)) hb); clear HO_0; clear HB; have HO_0 := n0_; have HB := n1_; clear n0_ n1_; (try clear hb); (try clear hb2); (try clear hk); (try clear hi))); try go_wp2_with (first | (go_at_call 100; (with_reducible refine (vinculumref09_row.calls ((rd_T42 x0_4 x18_7).f0) ((rd_T42 x0_4 x18_7).f1) ((rd_T42 x0_4 x18_7).f2) ((rd_T42 x0_4 x18_7).f3) false _ A56.out).mono ?_); rintro e w72 ⟨rfl, hb⟩; have n0_ := Aside0.mk (Kd.R_below (by (with_reducible repeat (first | apply Kd.R_alloc | apply Kd.R_drewN | apply Kd.R_drew)); exact HO_0.out) hb); have n1_ := Aside0.mk (below_step (by repeat (first | (with_reducible first | exact HB.out | apply below_alloc | apply pw_below_drewN | apply below_drew1) | exact HB.out)) hb); clear HO_0; clear HB; have HO_0 := n0_; have HB := n1_; clear n0_ n1_; (try clear hb); (try clear hb2); (try clear hk); (try clear hi)) | (go_at_call 23; (with_reducible refine (vinculumref03_Bytes.calls k7 0 2 t706 _ A69.out).mono ?_); rintro e w73 ⟨rfl, hb⟩; have n0_ := Aside0.mk (Kd.R_below (by (with_reducible repeat (first | apply Kd.R_alloc | apply Kd.R_drewN | apply Kd.R_drew)); exact HO_0.out) hb); have n1_ := Aside0.mk (below_step (by repeat (first | (with_reducible first | exact HB.out | apply below_alloc | apply pw_below_drewN | apply below_drew1) | exact HB.out)) hb); clear HO_0; clear HB; have HO_0 := n0_; have HB := n1_; clear n0_ n1_; (try clear hb); (try clear hb2); (try clear hk); (try clear hi))))
                                                      go_roundg k7
                                                      case measure => have := HJ4.out; have := HK2.out; have := HK3.out; have := HK4.out; have := HK5.out; have := HK6.out; have := HK7.out; omega
                                                      case rel => exact ⟨(x9_7 ++ t706), (x16_7), (x17_7), (wrap64 (x18_7 + 1)), (by first | rfl | (simp; done) | (simp [*]; done)), (by first | rfl | (simp; done) | (simp [*]; done)), (by first | rfl | (simp; done) | (simp [*]; done)), (by first | rfl | (simp; done) | (simp [*]; done)), H', ⟨by have := HJ4.out; have := HK2.out; have := HK3.out; have := HK4.out; have := HK5.out; have := HK6.out; have := HK7.out; omega⟩, ⟨by (with_reducible repeat (first | apply Kd.R_alloc | apply Kd.R_drewN | apply Kd.R_drew)); exact HO_0.out⟩, ⟨by repeat (first | (with_reducible first | exact HB.out | apply below_alloc | apply pw_below_drewN | apply below_drew1) | exact HB.out)⟩⟩
                                                    · rw [if_neg c70] at H
                                                      exact absurd H (by simp)
                                                · rw [if_neg c55] at H
                                                  exact absurd H (by simp)
                                              · rw [if_neg c54] at H
                                                exact absurd H (by simp)
                                            · rw [if_neg c53] at H
                                              have c53b0 : decide (x18_7 < t674) = false := decide_eq_false c53
                                              clear c53
                                              by_cases c74 : x9_7.size + x17_7.size ≤ 9223372036854775807
                                              · rw [if_pos c74] at H
                                                have c74b0 := eq_true c74
                                                have c74b1 : decide (x9_7.size + x17_7.size ≤ 9223372036854775807) = true := decide_eq_true c74
                                                try have c74b2 : (9223372036854775807 < x9_7.size + x17_7.size) = False := eq_false (Nat.not_lt.2 c74)
                                                simp only [Option.some.injEq, Prod.mk.injEq] at H
                                                obtain ⟨rfl, rfl⟩ := H
                                                go_wp2
                                                repeat (go_quiet (fail); try go_wp2)
                                                go_ret2
                                                exact ⟨by first | rfl | (simp [errW_none, errW_some] <;> rfl) | (simp [*, errW_none, errW_some] <;> rfl), by repeat (first | (with_reducible first | exact HB.out | apply below_alloc | apply pw_below_drewN | apply below_drew1) | exact HB.out)⟩
                                              · rw [if_neg c74] at H
                                                exact absurd H (by simp)
                          · rw [if_neg c29] at H
                            exact absurd H (by simp)
  · rw [if_neg c3] at H
    have c3b0 : (t676 == 0) = false := beq_eq_false_iff_ne.mpr c3
    have c3b1 : (t676 != 0) = true := bne_iff_ne.mpr c3
    simp only [Option.some.injEq, Prod.mk.injEq] at H
    obtain ⟨rfl, rfl⟩ := H
    go_enter Try.func52, Try.ntmps52
    go_wp2_with (first | (go_at_call 54; (with_reducible refine (vinculumref09_Many.calls k _ _ l0 t674 t675 t676 _ ?side1 ?side2 A2.out).mono ?_); (case side1 => repeat (first | exact HR0.out | (with_reducible refine Kd.C_alloc ?_ _) | (with_reducible refine Kd.C_drewN ?_ _) | (with_reducible refine Kd.C_drew ?_))); (case side2 => exact HC0.out); rintro e w75 ⟨rfl, hb⟩; have n0_ := Aside0.mk (below_step (by repeat (first | (with_reducible first | exact HB.out | apply below_alloc | apply pw_below_drewN | apply below_drew1) | exact HB.out)) hb); clear HB; have HB := n0_; clear n0_; (try clear hb); (try clear hb2); (try clear hk); (try clear hi)))
    repeat (go_quiet (first | (go_at_call 54; (with_reducible refine (vinculumref09_Many.calls k _ _ l0 t674 t675 t676 _ ?side1 ?side2 A2.out).mono ?_); (case side1 => repeat (first | exact HR0.out | (with_reducible refine Kd.C_alloc ?_ _) | (with_reducible refine Kd.C_drewN ?_ _) | (with_reducible refine Kd.C_drew ?_))); (case side2 => exact HC0.out); rintro e w75 ⟨rfl, hb⟩; have n0_ := Aside0.mk (below_step (by repeat (first | (with_reducible first | exact HB.out | apply below_alloc | apply pw_below_drewN | apply below_drew1) | exact HB.out)) hb); clear HB; have HB := n0_; clear n0_; (try clear hb); (try clear hb2); (try clear hk); (try clear hi))); try go_wp2_with (first | (go_at_call 54; (with_reducible refine (vinculumref09_Many.calls k _ _ l0 t674 t675 t676 _ ?side1 ?side2 A2.out).mono ?_); (case side1 => repeat (first | exact HR0.out | (with_reducible refine Kd.C_alloc ?_ _) | (with_reducible refine Kd.C_drewN ?_ _) | (with_reducible refine Kd.C_drew ?_))); (case side2 => exact HC0.out); rintro e w75 ⟨rfl, hb⟩; have n0_ := Aside0.mk (below_step (by repeat (first | (with_reducible first | exact HB.out | apply below_alloc | apply pw_below_drewN | apply below_drew1) | exact HB.out)) hb); clear HB; have HB := n0_; clear n0_; (try clear hb); (try clear hb2); (try clear hk); (try clear hi))))
    go_ret2
    exact ⟨by first | rfl | (simp [errW_none, errW_some] <;> rfl) | (simp [*, errW_none, errW_some] <;> rfl), by repeat (first | (with_reducible first | exact HB.out | apply below_alloc | apply pw_below_drewN | apply below_drew1) | exact HB.out)⟩
end Go.Proofs.Ytgifenlfklbdgaa.P
