/- A part of the proof of the law SegmentDoes: the words, contracts and plain facts that it needs, no more. Each says its own condition. -/
import Derived.Test.YtgifenlfklbdgaaZSegmentDoesz
import Derived.Test.YtgifenlfklbdgaaZSegmentDoesaa
import Derived.Deep.Cut
import Derived.Test.YtgifenlfklbdgaaZSegmentDoesg
section
namespace Go.Proofs.Ytgifenlfklbdgaa.P
open Go.RowKit Go.Proofs.YtgifenlfklbdgaaW.PrintWords Go.Proofs.YtgifenlfklbdgaaW.PrintLast Go.Proofs.YtgifenlfklbdgaaW.PrintMore
set_option linter.unusedSimpArgs false
set_option linter.unusedVariables false
def delN (x : S42) : Bool := x.f2 == 0 && (x.f3 == 0 || x.f1 == x.f0)
theorem kept_del (l : List S42) : l.filter (fun x => !delN x) = keptL l := rfl
theorem segs1_some (x : S42) : segment_segments_1.f x.f0 x.f1 x.f2 x.f3 = some (delN x) := by
  unfold segment_segments_1.f delN
  by_cases h1 : x.f2 = 0
  · rw [if_pos h1, beq_iff_eq.2 h1, Bool.true_and]
    by_cases h2 : x.f3 = 0
    · rw [if_pos h2, beq_iff_eq.2 h2, Bool.true_or]
    · rw [if_neg h2, beq_eq_false_iff_ne.2 h2, Bool.false_or]
  · rw [if_neg h1, beq_eq_false_iff_ne.2 h1, Bool.false_and]
theorem row_some (x : S42) : segment_row.f x.f0 x.f1 x.f2 x.f3 = some (rowN x) := by
  unfold segment_row.f rowN
  by_cases h : x.f3 = 0
  · rw [if_pos h, beq_iff_eq.2 h, Bool.true_and]
  · rw [if_neg h, beq_eq_false_iff_ne.2 h, Bool.false_and]
theorem enters_segs1 : EntersK 125 := entersK_of Try.func125 (by kernel_rfl) (by kernel_rfl)
theorem cntX_bd {x : S42} (hx : rightN x = true) (h : x.f1 ≤ 65535) : cntX x ≤ 65536 := by
  obtain ⟨a0, a1, _⟩ := (right_iff x).1 hx
  unfold cntX
  split <;> omega
theorem cntR_bd : ∀ (l : List S42), (∀ x ∈ l, rightN x = true ∧ x.f1 ≤ 65535) → cntR l ≤ 65536 * l.length
  | [], _ => Nat.zero_le _
  | x :: r, h => by
    have h1 := cntX_bd (h x List.mem_cons_self).1 (h x List.mem_cons_self).2
    have h2 := cntR_bd r (fun y hy => h y (List.mem_cons_of_mem _ hy))
    have e : cntR (x :: r) = cntX x + cntR r := rfl
    rw [e, List.length_cons]
    omega
theorem kept_len (l : List S42) : (keptL l).length ≤ l.length := List.length_filter_le _ _
theorem cntR_succ (l : List S42) (i : Nat) (h : i < l.length) : cntR (l.take (i + 1)) = cntR (l.take i) + cntX (atS l i) := by
  rw [List.take_add_one, List.getElem?_eq_getElem h, cntR_app, atS_get l i h]
  simp [cntR]
set_option maxRecDepth 100000 in
set_option maxHeartbeats 2000000 in
theorem segs_walk (A0 : Option Addr) (c0 : Nat) (l : List S42) (w : World) (hr0 : Kd.C k42 w A0 l.length l) (hc0 : l.length ≤ c0) (hi : isL l = true) (r : List S42 × Int × Int) (hr : segP l = r) :
    Calls Try.prog 90 #[.slice A0 l.length c0] w fun e w' => ∃ v0_ : Value, e = .returned (.tuple #[v0_, .int .i64 r.2.1, .int .i64 r.2.2]) ∧ Kd.R k42 42 w' w.heap.size (fun _ => True) v0_ r.1 ∧ Below w.heap.size w w' := by
  have hz := (zero_of_info (P := Try.prog) (t := 42) (v := .agg #[.int .i64 0, .int .i64 0, .int .i64 0, .int .i64 0]) (n := 4) (by kernel_rfl)).1
  have hall := isL_all hi
  have H1 := Lib.hid (fun W hW => chart_Is.calls A0 c0 l true W (Kd.C_below hr0 hW) hc0 (by unfold chart_Is.f; rw [hi]))
  have HR0 := Lib.hid hr0
  have HC0 := Lib.hid hc0
  have HL := Lib.hid hall
  have HR := Lib.hid (show (if farS (keptL l) = true then ([], 0, 7) else if 65535 < 16 + 8 * (closeL (keptL l)).length + 2 * cntR (keptL l) then ([], 0, 7) else (closeL (keptL l), (cntR (keptL l) : Int), 0)) = r by
    rw [← hr]; unfold segP; rw [hi, if_neg (show ¬ (true = false) by decide)])
  clear hr0 hc0 hi hr hall
  go_enter Try.func90, Try.ntmps90
  go_wp2_with fail
  refine (H1.out _ (Below.refl _ _)).mono ?_
  rintro e w1 ⟨rfl, hb1⟩
  have HB1 := Lib.hid hb1
  clear hb1
  go_wp2_with fail
  refine (clone_calls A0 c0 l _ (Kd.C_below HR0.out HB1.out) HC0.out HL.out.1).mono ?_
  rintro e w2 ⟨v2, rfl, hv2, hb2⟩
  obtain ⟨A2, c2, rfl⟩ := Kd.R_slice hv2
  have HV2 := Lib.hid (Kd.R_lower hv2 HB1.out.size)
  have HB2 := Lib.hid (below_then HB1.out HB1.out.size hb2)
  clear hv2 hb2
  go_wp2_with fail
  refine (del_walk 125 delN (fun x W => segment_segments_1.calls x.f0 x.f1 x.f2 x.f3 (delN x) W (segs1_some x)) enters_segs1 w w2 _ l HV2.out HB2.out HL.out.1).mono ?_
  rintro e w3 ⟨v3, rfl, hv3, hb3⟩
  rw [kept_del] at hv3
  obtain ⟨X, hX⟩ : ∃ X, X = keptL l := ⟨_, rfl⟩
  rw [← hX] at hv3 HR
  have HXR := Lib.hid (show ∀ x ∈ X, rightN x = true from fun x hx => by rw [hX] at hx; exact HL.out.2.1 x (List.mem_filter.1 hx).1)
  have HXL := Lib.hid (show X.length ≤ 65536 by rw [hX]; exact Nat.le_trans (kept_len l) HL.out.1)
  obtain ⟨A3, c3, rfl, _, hC3⟩ := Kd.R_reads hv3
  obtain ⟨n, hn⟩ : ∃ n, n = X.length := ⟨_, rfl⟩
  rw [← hn] at HXL hC3 ⊢
  rw [← hn] at hv3
  have HN := Lib.hid hn
  have HV3 := Lib.hid hv3
  have HC3 := Lib.hid hC3
  have HB3 := Lib.hid hb3
  clear hv3 hb3 hC3 hX hn
  go_wp2_with fail
  go_loopw [5, 16] (fun v5 v16 wr => ∃ (i : Nat), i ≤ n ∧ v5 = .int .i64 (cntR (X.take i) : Int) ∧ v16 = .int .i64 (i : Int) ∧ Aside0 (∀ x ∈ X.take i, x.f1 ≤ 65535) ∧ Aside0 (Below w3.heap.size w3 wr)) (fun _ v16 _ => n - (intOf v16).toNat)
  case atStart => exact ⟨0, Nat.zero_le _, rfl, rfl, ⟨fun x hx => absurd hx (by simp)⟩, ⟨Below.refl _ _⟩⟩
  case round =>
    obtain ⟨i, hi, rfl, rfl, HF, HB⟩ := hrel
    by_cases hlt : i < n
    · have p0 : (0 : Int) ≤ (i : Int) := by omega
      have p1 : (i : Int) < (n : Int) := by omega
      have d3 : decide ((i : Int) < (n : Int)) = true := decide_eq_true p1
      have hwi : wrap64 ((i : Int) + 1) = ((i + 1 : Nat) : Int) := by have := HXL.out; unfold wrap64; omega
      have hil : i < X.length := by rw [← HN.out]; exact hlt
      obtain ⟨ad, rfl, x0, x1, x2, x3⟩ := at_T42 HC3.out (i : Int) p0 p1
      rw [rd_atS] at x0 x1 x2 x3
      rw [Int.toNat_natCast] at x0 x1 x2 x3
      replace x0 := (HB.out.cell (World.block_lt_of_cell? _ _ x0)).trans x0
      replace x1 := (HB.out.cell (World.block_lt_of_cell? _ _ x1)).trans x1
      replace x2 := (HB.out.cell (World.block_lt_of_cell? _ _ x2)).trans x2
      replace x3 := (HB.out.cell (World.block_lt_of_cell? _ _ x3)).trans x3
      have HRX := Lib.hid (show rightN (atS X i) = true by rw [atS_get X i hil]; exact HXR.out _ (List.getElem_mem hil))
      have HSU := Lib.hid (cntR_succ X i hil)
      have HTX := Lib.hid (show X.take (i + 1) = X.take i ++ [atS X i] by rw [List.take_add_one, List.getElem?_eq_getElem hil, atS_get X i hil]; rfl)
      have HMX := Lib.hid (show atS X i ∈ X by rw [atS_get X i hil]; exact List.getElem_mem hil)
      obtain ⟨x, hx⟩ : ∃ x, x = atS X i := ⟨_, rfl⟩
      rw [← hx] at x0 x1 x2 x3 HRX HSU HTX HMX
      have HLT := Lib.hid hlt
      clear hx hil hlt hi
      replace p0 := eq_true p0
      replace p1 := eq_true p1
      by_cases hfar : x.f1 > 65535
      · have d5 : decide (65535 < x.f1) = true := decide_eq_true hfar
        have HRE := Lib.hid (show r = ([], 0, 7) by
          rw [← HR.out, if_pos]
          exact List.any_eq_true.2 ⟨x, HMX.out, decide_eq_true hfar⟩)
        have HBE := Lib.hid (HB3.out.trans (HB.out.mono HB3.out.size))
        have hbx := fun (o : Obj) => (HBE.out.alloc HBE.out.size o)
        have HBX := Lib.hid hbx
        clear hfar hbx
        go_wp2
        refine bodyPost_ret (v := .tuple #[.slice none 0 0, .int .i64 0, .int .i64 7]) (by simp [results, Try.results90, go_sem]) rfl ?_
        rw [HRE.out]
        exact ⟨_, rfl, Kd.R_nil _ _ _ _ _, HBX.out _⟩
      · have d5 : decide (65535 < x.f1) = false := decide_eq_false hfar
        have HF2 := Lib.hid (show ∀ y ∈ X.take (i + 1), y.f1 ≤ 65535 from fun y hy => by
          rw [HTX.out] at hy
          rcases List.mem_append.1 hy with hy | hy
          · exact HF.out y hy
          · rw [List.mem_singleton.1 hy]; omega)
        have hcb : cntR (X.take i) ≤ 65536 * 65536 := by
          have h1 := cntR_bd (X.take i) (fun y hy => ⟨HXR.out y (List.mem_of_mem_take hy), HF.out y hy⟩)
          have h2 : (X.take i).length ≤ 65536 := by rw [List.length_take, ← HN.out]; have := HXL.out; omega
          omega
        have hxb := (right_iff x).1 HRX.out
        have hw1 : wrap64 (x.f1 - x.f0) = x.f1 - x.f0 := by unfold wrap64; omega
        have hw2 : wrap64 (x.f1 - x.f0 + 1) = x.f1 - x.f0 + 1 := by unfold wrap64; omega
        have hw3 : wrap64 ((cntR (X.take i) : Int) + (x.f1 - x.f0 + 1)) = (cntR (X.take i) : Int) + (x.f1 - x.f0 + 1) := by unfold wrap64; omega
        have HXB := Lib.hid hxb
        have HW3 := Lib.hid hw3
        clear hfar hcb hxb
        go_wp2_with fail
        refine (segment_row.calls x.f0 x.f1 x.f2 x.f3 (rowN x) _ (row_some x)).mono ?_
        rintro e w4 ⟨rfl, hb4⟩
        obtain ⟨wx, hwx⟩ : ∃ wx, wx = wr.alloc (.cells #[.int .i64 x.f0, .int .i64 x.f1, .int .i64 x.f2, .int .i64 x.f3] 42) := ⟨_, rfl⟩
        rw [← hwx] at hb4
        have hbx : Below wr.heap.size wr wx := by rw [hwx]; exact (Below.refl _ wr).alloc (Nat.le_refl _) _
        have hbox0 : wx.heap[wr.heap.size]? = some (.cells #[.int .i64 x.f0, .int .i64 x.f1, .int .i64 x.f2, .int .i64 x.f3] 42 (0, 0)) := by rw [hwx]; exact World.alloc_heap_new wr _
        have hszx : wr.heap.size < wx.heap.size := by rw [hwx]; simp
        have hbox := (hb4.block wr.heap.size hszx).trans hbox0
        have HB4 := Lib.hid (below_then HB.out HB.out.size (hbx.trans (hb4.mono hbx.size)))
        have b0 : w4.cell? ⟨wr.heap.size, 0, none⟩ = some (.int .i64 x.f0) := (blk_cell hbox 0).trans rfl
        have b1 : w4.cell? ⟨wr.heap.size, 1, none⟩ = some (.int .i64 x.f1) := (blk_cell hbox 1).trans rfl
        clear hb4 hwx hbx hbox0 hszx hbox x0 x1 x2 x3
        cases hrow : rowN x with
        | true =>
          have HC := Lib.hid (show ((cntR (X.take (i + 1)) : Nat) : Int) = (cntR (X.take i) : Int) + (x.f1 - x.f0 + 1) by
            rw [HSU.out]
            unfold cntX
            rw [hrow, if_pos rfl]
            have := HXB.out
            omega)
          clear hrow
          go_wp2
          go_roundw
          case rel => exact ⟨i + 1, HLT.out, by rw [HC.out, HW3.out], by rw [hwi], ⟨HF2.out⟩, ⟨HB4.out⟩⟩
          case measure => rw [hwi]; exact less_step (by decide) HLT.out
        | false =>
          have HC := Lib.hid (show ((cntR (X.take (i + 1)) : Nat) : Int) = (cntR (X.take i) : Int) by
            rw [HSU.out]
            unfold cntX
            rw [hrow, if_neg (by decide)]
            rfl)
          clear hrow b0 b1
          go_wp2
          go_roundw
          case rel => exact ⟨i + 1, HLT.out, by rw [HC.out], by rw [hwi], ⟨HF2.out⟩, ⟨HB4.out⟩⟩
          case measure => rw [hwi]; exact less_step (by decide) HLT.out
    · have hin : i = n := by omega
      subst hin
      have d3 : decide ((i : Int) < (i : Int)) = false := decide_eq_false (by omega)
      have htk : X.take i = X := List.take_of_length_le (by rw [← HN.out]; exact Nat.le_refl _)
      rw [htk] at HF ⊢
      have HFS := Lib.hid (show ¬ farS X = true from fun hh => by
        obtain ⟨x, hx, hx2⟩ := List.any_eq_true.1 hh
        have := HF.out x hx
        have := of_decide_eq_true hx2
        omega)
      have HVW := Lib.hid (Kd.R_below HV3.out HB.out)
      have HBW := Lib.hid (HB3.out.trans (HB.out.mono HB3.out.size))
      obtain ⟨G, hG⟩ : ∃ G : Int, G = (cntR X : Int) := ⟨_, rfl⟩
      have HGB := Lib.hid (show 0 ≤ G ∧ G ≤ 4294967296 by
        have h1 := cntR_bd X (fun y hy => ⟨HXR.out y hy, HF.out y hy⟩)
        have h2 := HXL.out
        have h3 := HN.out
        rw [hG]; omega)
      rw [← hG]
      have HG := Lib.hid hG
      clear htk hG hlt hi
      by_cases hn0 : i = 0
      · have d4 : ((i : Int) == 0) = true := by simpa using hn0
        have HCL := Lib.hid (show closeL X = X ++ [sentS] by unfold closeL tailS; rw [if_pos (.inl (by rw [← HN.out]; exact hn0))])
        clear hn0
        go_upto_region 15 with (first | ((with_reducible refine gate_builtin (b := .append) (xs := #[.tmp 47, .tmp 49]) rfl ?_); at_builtin; refine Kd.R_append k42 (w0 := w) w.heap.size rfl (.tmp 47) (.tmp 49) 22 42 (.agg #[(.int .i64 0), (.int .i64 0), (.int .i64 0), (.int .i64 0)]) 32 rfl Try.underlying22 info42 rfl (by decide) (by decide) _ X sentS [.int .i64 65535, .int .i64 65535, .int .i64 0, .int .i64 1] (fun _ => True) (fun _ => False) rfl rfl (k42_mkM _ _ _ sentS) (fun _ hk => hk.elim) (fun _ _ => trivial) HVW.out HBW.out HBW.out.size (by have := HXL.out; have := HN.out; omega) ?_; intro v5 w5 ho hb hg hat; have HV5 := Lib.hid ho; have HB5 := Lib.hid hb; clear ho hb hg hat))
        obtain ⟨A5, k5, rfl⟩ := Kd.R_slice HV5.out
        obtain ⟨m, hm⟩ : ∃ m, m = (closeL X).length := ⟨_, rfl⟩
        have HM := Lib.hid hm
        have HRW := Lib.hid (show ∀ ys : List S42, ys = closeL X → (if 65535 < 16 + 8 * (m : Int) + 2 * G then (([] : List S42), (0 : Int), (7 : Int)) else (ys, G, 0)) = r from fun ys hys => by
          rw [← HR.out, if_neg HFS.out, hys]
          have e1 : (65535 < 16 + 8 * (m : Int) + 2 * G) ↔ 65535 < 16 + 8 * (closeL X).length + 2 * cntR X := by rw [HG.out, hm]; omega
          by_cases hq : 65535 < 16 + 8 * (m : Int) + 2 * G
          · rw [if_pos hq, if_pos (e1.1 hq)]
          · rw [if_neg hq, if_neg (fun hh => hq (e1.2 hh)), HG.out])
        have hml : m ≤ 65537 := by
          rw [hm]; unfold closeL tailS
          have h1 := HXL.out
          have h2 := HN.out
          split <;> simp <;> omega
        rw [show (X ++ [sentS]).length = m by rw [hm, HCL.out]] at HV5 ⊢
        rw [show X ++ [sentS] = closeL X from HCL.out.symm] at HV5
        have HV6 := HV5
        have u1 : wrap64 (8 * (m : Int)) = 8 * (m : Int) := by unfold wrap64; omega
        have u2 : wrap64 (16 + 8 * (m : Int)) = 16 + 8 * (m : Int) := by unfold wrap64; omega
        have u3 : wrap64 (2 * G) = 2 * G := by have := HGB.out; unfold wrap64; omega
        have u4 : wrap64 (16 + 8 * (m : Int) + 2 * G) = 16 + 8 * (m : Int) + 2 * G := by have := HGB.out; unfold wrap64; omega
        clear hm hml
        by_cases hbig : 65535 < 16 + 8 * (m : Int) + 2 * G
        · have d8 : decide (65535 < 16 + 8 * (m : Int) + 2 * G) = true := decide_eq_true hbig
          have HRE := Lib.hid (show r = ([], 0, 7) by rw [← HRW.out _ rfl, if_pos hbig])
          clear hbig
          go_wp2
          refine bodyPost_ret (v := .tuple #[.slice none 0 0, .int .i64 0, .int .i64 7]) (by simp [results, Try.results90, go_sem]) rfl ?_
          rw [HRE.out]
          exact ⟨_, rfl, Kd.R_nil _ _ _ _ _, HB5.out⟩
        · have d8 : decide (65535 < 16 + 8 * (m : Int) + 2 * G) = false := decide_eq_false hbig
          have HRE := Lib.hid (show r = (closeL X, G, 0) by rw [← HRW.out _ rfl, if_neg hbig])
          clear hbig
          go_wp2
          refine bodyPost_ret (v := .tuple #[.slice A5 m k5, .int .i64 G, .int .i64 0]) (by simp [results, Try.results90, go_sem]) rfl ?_
          rw [HRE.out]
          exact ⟨_, rfl, HV6.out, HB5.out⟩
      · obtain ⟨q, hq⟩ : ∃ q, i = q + 1 := ⟨i - 1, by omega⟩
        have d4 : ((i : Int) == 0) = false := beq_eq_false_iff_ne.2 (by omega)
        have hwq : wrap64 ((i : Int) - 1) = (q : Int) := by have := HXL.out; unfold wrap64; omega
        have p0 : (0 : Int) ≤ (q : Int) := by omega
        have p1 : (q : Int) < (i : Int) := by omega
        obtain ⟨ad, rfl, x0, x1, x2, x3⟩ := at_T42 HC3.out (q : Int) p0 p1
        rw [rd_atS] at x1
        rw [Int.toNat_natCast] at x1
        replace x1 := (HB.out.cell (World.block_lt_of_cell? _ _ x1)).trans x1
        obtain ⟨z, hz1⟩ : ∃ z, z = (atS X q).f1 := ⟨_, rfl⟩
        rw [← hz1] at x1
        have HQ := Lib.hid (show (X.length = 0 ∨ (atS X (X.length - 1)).f1 < 65535) ↔ z < 65535 by
          have h3 := HN.out
          rw [hz1, show X.length - 1 = q by omega]
          constructor
          · rintro (h | h)
            · omega
            · exact h
          · exact fun h => .inr h)
        clear x0 x2 x3 hz1 hn0 hq
        replace p0 := eq_true p0
        replace p1 := eq_true p1
        by_cases hlast : z < 65535
        · have d5 : decide (z < 65535) = true := decide_eq_true hlast
          have HCL := Lib.hid (show closeL X = X ++ [sentS] by unfold closeL tailS; rw [if_pos (HQ.out.2 hlast)])
          clear hlast
          go_upto_region 15 with (first | ((with_reducible refine gate_builtin (b := .append) (xs := #[.tmp 47, .tmp 49]) rfl ?_); at_builtin; refine Kd.R_append k42 (w0 := w) w.heap.size rfl (.tmp 47) (.tmp 49) 22 42 (.agg #[(.int .i64 0), (.int .i64 0), (.int .i64 0), (.int .i64 0)]) 32 rfl Try.underlying22 info42 rfl (by decide) (by decide) _ X sentS [.int .i64 65535, .int .i64 65535, .int .i64 0, .int .i64 1] (fun _ => True) (fun _ => False) rfl rfl (k42_mkM _ _ _ sentS) (fun _ hk => hk.elim) (fun _ _ => trivial) HVW.out HBW.out HBW.out.size (by have := HXL.out; have := HN.out; omega) ?_; intro v5 w5 ho hb hg hat; have HV5 := Lib.hid ho; have HB5 := Lib.hid hb; clear ho hb hg hat))
          obtain ⟨A5, k5, rfl⟩ := Kd.R_slice HV5.out
          obtain ⟨m, hm⟩ : ∃ m, m = (closeL X).length := ⟨_, rfl⟩
          have HM := Lib.hid hm
          have HRW := Lib.hid (show ∀ ys : List S42, ys = closeL X → (if 65535 < 16 + 8 * (m : Int) + 2 * G then (([] : List S42), (0 : Int), (7 : Int)) else (ys, G, 0)) = r from fun ys hys => by
            rw [← HR.out, if_neg HFS.out, hys]
            have e1 : (65535 < 16 + 8 * (m : Int) + 2 * G) ↔ 65535 < 16 + 8 * (closeL X).length + 2 * cntR X := by rw [HG.out, hm]; omega
            by_cases hq : 65535 < 16 + 8 * (m : Int) + 2 * G
            · rw [if_pos hq, if_pos (e1.1 hq)]
            · rw [if_neg hq, if_neg (fun hh => hq (e1.2 hh)), HG.out])
          have hml : m ≤ 65537 := by
            rw [hm]; unfold closeL tailS
            have h1 := HXL.out
            have h2 := HN.out
            split <;> simp <;> omega
          rw [show (X ++ [sentS]).length = m by rw [hm, HCL.out]] at HV5 ⊢
          rw [show X ++ [sentS] = closeL X from HCL.out.symm] at HV5
          have HV6 := HV5
          have u1 : wrap64 (8 * (m : Int)) = 8 * (m : Int) := by unfold wrap64; omega
          have u2 : wrap64 (16 + 8 * (m : Int)) = 16 + 8 * (m : Int) := by unfold wrap64; omega
          have u3 : wrap64 (2 * G) = 2 * G := by have := HGB.out; unfold wrap64; omega
          have u4 : wrap64 (16 + 8 * (m : Int) + 2 * G) = 16 + 8 * (m : Int) + 2 * G := by have := HGB.out; unfold wrap64; omega
          clear hm hml
          by_cases hbig : 65535 < 16 + 8 * (m : Int) + 2 * G
          · have d8 : decide (65535 < 16 + 8 * (m : Int) + 2 * G) = true := decide_eq_true hbig
            have HRE := Lib.hid (show r = ([], 0, 7) by rw [← HRW.out _ rfl, if_pos hbig])
            clear hbig
            go_wp2
            refine bodyPost_ret (v := .tuple #[.slice none 0 0, .int .i64 0, .int .i64 7]) (by simp [results, Try.results90, go_sem]) rfl ?_
            rw [HRE.out]
            exact ⟨_, rfl, Kd.R_nil _ _ _ _ _, HB5.out⟩
          · have d8 : decide (65535 < 16 + 8 * (m : Int) + 2 * G) = false := decide_eq_false hbig
            have HRE := Lib.hid (show r = (closeL X, G, 0) by rw [← HRW.out _ rfl, if_neg hbig])
            clear hbig
            go_wp2
            refine bodyPost_ret (v := .tuple #[.slice A5 m k5, .int .i64 G, .int .i64 0]) (by simp [results, Try.results90, go_sem]) rfl ?_
            rw [HRE.out]
            exact ⟨_, rfl, HV6.out, HB5.out⟩
        · have d5 : decide (z < 65535) = false := decide_eq_false hlast
          have HCL := Lib.hid (show closeL X = X by unfold closeL tailS; rw [if_neg (fun h => hlast (HQ.out.1 h)), List.append_nil])
          clear hlast
          go_upto_region 15 with (fail)
          have hm : i = (closeL X).length := by rw [HCL.out, ← HN.out]
          have HM := Lib.hid hm
          have HRW := Lib.hid (show ∀ ys : List S42, ys = closeL X → (if 65535 < 16 + 8 * (i : Int) + 2 * G then (([] : List S42), (0 : Int), (7 : Int)) else (ys, G, 0)) = r from fun ys hys => by
            rw [← HR.out, if_neg HFS.out, hys]
            have e1 : (65535 < 16 + 8 * (i : Int) + 2 * G) ↔ 65535 < 16 + 8 * (closeL X).length + 2 * cntR X := by rw [HG.out, hm]; omega
            by_cases hq : 65535 < 16 + 8 * (i : Int) + 2 * G
            · rw [if_pos hq, if_pos (e1.1 hq)]
            · rw [if_neg hq, if_neg (fun hh => hq (e1.2 hh)), HG.out])
          have hml : i ≤ 65537 := by
            rw [hm]; unfold closeL tailS
            have h1 := HXL.out
            have h2 := HN.out
            split <;> simp <;> omega
          have HV6 := Lib.hid (show Kd.R k42 42 wr w.heap.size (fun _ => True) (.slice (some ad) i c3) (closeL X) by rw [HCL.out]; exact HVW.out)
          have u1 : wrap64 (8 * (i : Int)) = 8 * (i : Int) := by unfold wrap64; omega
          have u2 : wrap64 (16 + 8 * (i : Int)) = 16 + 8 * (i : Int) := by unfold wrap64; omega
          have u3 : wrap64 (2 * G) = 2 * G := by have := HGB.out; unfold wrap64; omega
          have u4 : wrap64 (16 + 8 * (i : Int) + 2 * G) = 16 + 8 * (i : Int) + 2 * G := by have := HGB.out; unfold wrap64; omega
          clear hm hml
          by_cases hbig : 65535 < 16 + 8 * (i : Int) + 2 * G
          · have d8 : decide (65535 < 16 + 8 * (i : Int) + 2 * G) = true := decide_eq_true hbig
            have HRE := Lib.hid (show r = ([], 0, 7) by rw [← HRW.out _ rfl, if_pos hbig])
            clear hbig
            go_wp2
            refine bodyPost_ret (v := .tuple #[.slice none 0 0, .int .i64 0, .int .i64 7]) (by simp [results, Try.results90, go_sem]) rfl ?_
            rw [HRE.out]
            exact ⟨_, rfl, Kd.R_nil _ _ _ _ _, HBW.out⟩
          · have d8 : decide (65535 < 16 + 8 * (i : Int) + 2 * G) = false := decide_eq_false hbig
            have HRE := Lib.hid (show r = (closeL X, G, 0) by rw [← HRW.out _ rfl, if_neg hbig])
            clear hbig
            go_wp2
            refine bodyPost_ret (v := .tuple #[.slice (some ad) i c3, .int .i64 G, .int .i64 0]) (by simp [results, Try.results90, go_sem]) rfl ?_
            rw [HRE.out]
            exact ⟨_, rfl, HV6.out, HBW.out⟩
theorem segs_arg (A0 : Option Addr) (c0 : Nat) (l : List S42) (w : World) (hr0 : Kd.C k42 w A0 l.length l) (hc0 : l.length ≤ c0) (hi : isL l = false) :
    Calls Try.prog 90 #[.slice A0 l.length c0] w fun e w' => ∃ v0_ : Value, e = .returned (.tuple #[v0_, .int .i64 0, .int .i64 1]) ∧ Kd.R k42 42 w' w.heap.size (fun _ => True) v0_ [] ∧ Below w.heap.size w w' := by
  have H1 := Lib.hid (chart_Is.calls A0 c0 l false w hr0 hc0 (by unfold chart_Is.f; rw [hi]))
  clear hr0 hc0 hi
  go_enter Try.func90, Try.ntmps90
  go_wp2_with fail
  refine H1.out.mono ?_
  rintro e w1 ⟨rfl, hb⟩
  have HB1 := Lib.hid hb
  clear hb
  go_wp2
  refine bodyPost_ret (v := .tuple #[.slice none 0 0, .int .i64 0, .int .i64 1]) (by simp [results, Try.results90, go_sem]) rfl ?_
  exact ⟨_, rfl, Kd.R_nil _ _ _ _ _, HB1.out⟩
def segment_segments.f (l0 : List S42) : Option (List S42 × Int × Int) := some (segP l0)
theorem segment_segments.calls (A0 : Option Addr) (c0 : Nat) (l0 : List S42) (r1 : List S42) (r2 r3 : Int) (w : World) (hr0 : Kd.C k42 w A0 l0.length l0) (hc0 : l0.length ≤ c0) (h : segment_segments.f l0 = some (r1, r2, r3)) :
    Calls Try.prog 90 #[.slice A0 l0.length c0] w fun e w' => ∃ v0_ : Value, e = .returned (.tuple #[v0_, .int .i64 r2, .int .i64 r3]) ∧ Kd.R k42 42 w' w.heap.size (fun _ => True) v0_ r1 ∧ Below w.heap.size w w' := by
  have hr := Option.some.inj h
  cases hi : isL l0 with
  | true => exact segs_walk A0 c0 l0 w hr0 hc0 hi (r1, r2, r3) hr
  | false =>
    unfold segP at hr
    rw [hi, if_pos rfl] at hr
    obtain ⟨e1, hr⟩ := Prod.mk.inj hr
    obtain ⟨e2, e3⟩ := Prod.mk.inj hr
    rw [← e1, ← e2, ← e3]
    exact segs_arg A0 c0 l0 w hr0 hc0 hi
end Go.Proofs.Ytgifenlfklbdgaa.P
end
section
namespace Go.Proofs.Ytgifenlfklbdgaa.P
open Go.RowKit Go.Proofs.YtgifenlfklbdgaaW.PrintWords Go.Proofs.YtgifenlfklbdgaaW.PrintLast Go.Proofs.YtgifenlfklbdgaaW.PrintMore
attribute [local go_sem] max2_int min2_int max_two min_two max_three min_three max_four min_four
set_option linter.unusedVariables false
set_option linter.unusedSimpArgs false
def segment_Many.f (l0 : List (S42)) : Option (Int × Int × Int) := (segment_segments.f l0).bind fun bt707 => (some ((bt707.1.length : Int), bt707.2.1, bt707.2.2))
set_option maxHeartbeats 8000000 in
set_option maxRecDepth 100000 in
theorem segment_Many.calls (A0 : Option Addr) (c0 : Nat) (l0 : List (S42)) (r1 : Int) (r2 : Int) (r3 : Int) (w : World) (hr0 : Kd.C k42 w A0 l0.length l0) (hc0 : l0.length ≤ c0) (h : segment_Many.f l0 = some (r1, r2, r3)) :
    Calls Try.prog 53 #[.slice A0 l0.length c0] w fun e w' => e = .returned (.tuple #[.int .i64 r1, .int .i64 r2, .int .i64 r3]) ∧ Below w.heap.size w w' := by
  have HR0 := Aside0.mk hr0
  have HC0 := Aside0.mk hc0
  clear hr0 hc0
  have HB := Aside0.mk (Below.refl w.heap.size w)
  have H : ((segment_segments.f l0).bind fun bt707 => (some ((bt707.1.length : Int), bt707.2.1, bt707.2.2))) = some (r1, r2, r3) := h
  clear h
  replace H := Option.bind_eq_some_iff.mp H
  obtain ⟨⟨t707, t708, t709⟩, A20, H⟩ := H
  replace H : (some ((t707.length : Int), t708, t709)) = some (r1, r2, r3) := H
  have A2 := Aside0.mk A20
  clear A20
  simp only [Option.some.injEq, Prod.mk.injEq] at H
  obtain ⟨rfl, rfl, rfl⟩ := H
  go_enter Try.func53, Try.ntmps53
  go_wp2_with (first | ((with_reducible refine gate_callee (f := 90) rfl ?_); refine goesL_ (some 9) rfl rfl Try.func90 (by kernel_rfl) rfl #[.slice A0 l0.length c0] rfl (by (try simp only [List.map_toArray, List.map_cons, List.map_nil]); first | done | rfl | (simp only [List.length_drop, List.length_take]; rfl)) ?_; (with_reducible refine (segment_segments.calls _ _ l0 t707 t708 t709 _ ?side1 ?side2 A2.out).mono ?_); (case side1 => repeat (first | exact HR0.out | (with_reducible refine Kd.C_alloc ?_ _) | (with_reducible refine Kd.C_drewN ?_ _) | (with_reducible refine Kd.C_drew ?_))); (case side2 => exact HC0.out); rintro e w3 ⟨v710, rfl, ho0, hb⟩; refine ⟨_, rfl, ?_⟩; have n0_ := Aside0.mk (Kd.R_lower ho0 (below_size (by repeat (first | (with_reducible first | exact HB.out | apply below_alloc | apply pw_below_drewN | apply below_drew1) | exact HB.out)))); have n1_ := Aside0.mk (below_step (by repeat (first | (with_reducible first | exact HB.out | apply below_alloc | apply pw_below_drewN | apply below_drew1) | exact HB.out)) hb); clear HB; have HO711 := n0_; have HB := n1_; clear n0_ n1_; (try clear hb); (try clear hb2); (try clear hk); (try clear hi); (try clear ho0); obtain ⟨Ao4, co4, eo4⟩ := Kd.R_slice HO711.out; subst eo4))
  go_ret3
  exact ⟨by first | rfl | (simp [errW_none, errW_some] <;> rfl) | (simp [*, errW_none, errW_some] <;> rfl), by repeat (first | (with_reducible first | exact HB.out | apply below_alloc | apply pw_below_drewN | apply below_drew1) | exact HB.out)⟩
end Go.Proofs.Ytgifenlfklbdgaa.P
end
