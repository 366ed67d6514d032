/- Words, contracts and plain facts of the proof. Each says its own condition. -/
import Derived.Test.YtejdflndgnpkcaaGreatZCmapDoest
import Derived.Deep.Cut
import Derived.Test.YtejdflndgnpkcaaGreatZCmapDoese
import Derived.Test.YtejdflndgnpkcaaGreatZCmapDoesi
set_option linter.unusedVariables false
set_option maxRecDepth 100000
set_option linter.unusedSimpArgs false
set_option maxHeartbeats 16000000
section
namespace Go.Proofs.YtejdflndgnpkcaaGreat.P
open Go.RowKit PW PL PM
def delN (x : S61) : Bool := x.f2 == 0 && (x.f3 == 0 || x.f1 == x.f0)
theorem kept_del (l : List S61) : l.filter (fun x => !delN x) = keptL l := rfl
theorem segs1_some (x : S61) : segment_segments_1.f x.f0 x.f1 x.f2 x.f3 = some (delN x) := by
 unfold segment_segments_1.f delN;by_cases h1 : x.f2 = 0
 ·
  rw [if_pos h1, beq_iff_eq.2 h1, Bool.true_and];by_cases h2 : x.f3 = 0
  · rw [if_pos h2, beq_iff_eq.2 h2, Bool.true_or]
  rw [if_neg h2, beq_eq_false_iff_ne.2 h2, Bool.false_or]
 rw [if_neg h1, beq_eq_false_iff_ne.2 h1, Bool.false_and]
theorem row_some (x : S61) : segment_row.f x.f0 x.f1 x.f2 x.f3 = some (rowN x) := by
 unfold segment_row.f rowN;by_cases h : x.f3 = 0
 · rw [if_pos h, beq_iff_eq.2 h, Bool.true_and]
 rw [if_neg h, beq_eq_false_iff_ne.2 h, Bool.false_and]
theorem enters_segs1 : EntersK 113 := entersK_of Tryz.func113 (by kernel_rfl) (by kernel_rfl)
theorem cntX_bd {x : S61} (hx : rightN x = true) (h : x.f1 ≤ 65535) : cntX x ≤ 65536 := by
 obtain ⟨a0, a1, _⟩ := (right_iff x).1 hx;unfold cntX;split <;> omega
theorem cntR_bd : ∀ (l : List S61), (∀ x ∈ l, rightN x = true ∧ x.f1 ≤ 65535) → cntR l ≤ 65536 * l.length
 | [], _ => Nat.zero_le _
 | x :: r, h => by
  have h1 := cntX_bd (h x List.mem_cons_self).1 (h x List.mem_cons_self).2;have h2 := cntR_bd r (fun y hy => h y (List.mem_cons_of_mem _ hy));have e : cntR (x :: r) = cntX x + cntR r := rfl;rw [e, List.length_cons];omega
theorem kept_len (l : List S61) : (keptL l).length ≤ l.length := List.length_filter_le _ _
theorem cntR_succ (l : List S61) (i : Nat) (h : i < l.length) : cntR (l.take (i + 1)) = cntR (l.take i) + cntX (atS l i) := by
 rw [List.take_add_one, List.getElem?_eq_getElem h, cntR_app, atS_get l i h];simp [cntR]
theorem segs_walk (A0 : Option Addr) (c0 : Nat) (l : List S61) (w : World) (hr0 : Kd.C k61 w A0 l.length l) (hc0 : l.length ≤ c0) (hi : isL l = true) (r : List S61 × Int × Int) (hr : segP l = r) :
  Calls Tryz.prog 83 #[.slice A0 l.length c0] w fun e w' => ∃ v0_ : Value, e = .returned (.tuple #[v0_, .int .i64 r.2.1, .int .i64 r.2.2]) ∧ Kd.R k61 61 w' w.heap.size (fun _ => True) v0_ r.1 ∧ Below w.heap.size w w' := by
 have hz := (zero_of_info (P := Tryz.prog) (t := 61) (v := .agg #[.int .i64 0, .int .i64 0, .int .i64 0, .int .i64 0]) (n := 4) (by kernel_rfl)).1;have hall := isL_all hi;have H1 := hI (fun W hW => chart_Is.calls A0 c0 l true W (Kd.C_below hr0 hW) hc0 (by unfold chart_Is.f; rw [hi]));have HR0 := hI hr0;have HC0 := hI hc0;have HL := hI hall
 have HR := hI (show (if farS (keptL l) = true then ([], 0, 7) else if 65535 < 16 + 8 * (closeL (keptL l)).length + 2 * cntR (keptL l) then ([], 0, 7) else (closeL (keptL l), (cntR (keptL l) : Int), 0)) = r by
  rw [← hr]; unfold segP; rw [hi, if_neg (show ¬ (true = false) by decide)])
 clear hr0 hc0 hi hr hall;go_enter Tryz.func83, Tryz.ntmps83;go_wp2_with fail
 refine (H1.out _ (Below.refl _ _)).mono ?_;rintro e w1 ⟨rfl, hb1⟩;have HB1 := hI hb1;clear hb1;go_wp2_with fail
 refine (clone_calls A0 c0 l _ (Kd.C_below HR0.out HB1.out) HC0.out HL.out.1).mono ?_;rintro e w2 ⟨v2, rfl, hv2, hb2⟩;obtain ⟨A2, c2, rfl⟩ := Kd.R_slice hv2;have HV2 := hI (Kd.R_lower hv2 HB1.out.size);have HB2 := hI (below_then HB1.out HB1.out.size hb2);clear hv2 hb2;go_wp2_with fail
 refine (del_walk 113 delN (fun x W => segment_segments_1.calls x.f0 x.f1 x.f2 x.f3 (delN x) W (segs1_some x)) enters_segs1 w w2 _ l HV2.out HB2.out HL.out.1).mono ?_;rintro e w3 ⟨v3, rfl, hv3, hb3⟩;rw [kept_del] at hv3;obtain ⟨X, hX⟩ : ∃ X, X = keptL l := ⟨_, rfl⟩;rw [← hX] at hv3 HR;have HXR := hI (show ∀ x ∈ X, rightN x = true from fun x hx => by rw [hX] at hx; exact HL.out.2.1 x (List.mem_filter.1 hx).1);have HXL := hI (show X.length ≤ 65536 by rw [hX]; exact Nat.le_trans (kept_len l) HL.out.1);obtain ⟨A3, c3, rfl, _, hC3⟩ := Kd.R_reads hv3;obtain ⟨n, hn⟩ : ∃ n, n = X.length := ⟨_, rfl⟩;rw [← hn] at HXL hC3 ⊢;rw [← hn] at hv3;have HN := hI hn;have HV3 := hI hv3;have HC3 := hI hC3;have HB3 := hI hb3;clear hv3 hb3 hC3 hX hn;go_wp2_with fail
 go_loopw [5, 16] (fun v5 v16 wr => ∃ (i : Nat), i ≤ n ∧ v5 = .int .i64 (cntR (X.take i) : Int) ∧ v16 = .int .i64 (i : Int) ∧ Aside0 (∀ x ∈ X.take i, x.f1 ≤ 65535) ∧ Aside0 (Below w3.heap.size w3 wr)) (fun _ v16 _ => n - (intOf v16).toNat)
 case atStart => exact ⟨0, Nat.zero_le _, rfl, rfl, ⟨fun x hx => absurd hx (by simp)⟩, ⟨Below.refl _ _⟩⟩
 case round =>
  obtain ⟨i, hi, rfl, rfl, HF, HB⟩ := hrel;by_cases hlt : i < n
  ·
   have p0 : (0 : Int) ≤ (i : Int) := by omega
   have p1 : (i : Int) < (n : Int) := by omega
   have d3 : decide ((i : Int) < (n : Int)) = true := decide_eq_true p1;have hwi : wrap64 ((i : Int) + 1) = ((i + 1 : Nat) : Int) := by have := HXL.out; unfold wrap64; omega
   have hil : i < X.length := by rw [← HN.out]; exact hlt
   obtain ⟨ad, rfl, x0, x1, x2, x3⟩ := at_T61 HC3.out (i : Int) p0 p1;rw [rd_atS] at x0 x1 x2 x3;rw [Int.toNat_natCast] at x0 x1 x2 x3;replace x0 := kM HB.out x0;replace x1 := kM HB.out x1;replace x2 := kM HB.out x2;replace x3 := kM HB.out x3;have HRX := hI (show rightN (atS X i) = true by rw [atS_get X i hil]; exact HXR.out _ (List.getElem_mem hil));have HSU := hI (cntR_succ X i hil);have HTX := hI (show X.take (i + 1) = X.take i ++ [atS X i] by rw [List.take_add_one, List.getElem?_eq_getElem hil, atS_get X i hil]; rfl);have HMX := hI (show atS X i ∈ X by rw [atS_get X i hil]; exact List.getElem_mem hil);obtain ⟨x, hx⟩ : ∃ x, x = atS X i := ⟨_, rfl⟩;rw [← hx] at x0 x1 x2 x3 HRX HSU HTX HMX;have HLT := hI hlt;clear hx hil hlt hi;replace p0 := eq_true p0;replace p1 := eq_true p1;by_cases hfar : x.f1 > 65535
   ·
    have d5 : decide (65535 < x.f1) = true := decide_eq_true hfar
    have HRE := hI (show r = ([], 0, 7) by
     rw [← HR.out, if_pos];exact List.any_eq_true.2 ⟨x, HMX.out, decide_eq_true hfar⟩)
    have HBE := hI (HB3.out.trans (HB.out.mono HB3.out.size));have hbx := fun (o : Obj) => (HBE.out.alloc HBE.out.size o)
    have HBX := hI hbx;clear hfar hbx;go_wp2;refine bodyPost_ret (v := .tuple #[.slice none 0 0, .int .i64 0, .int .i64 7]) (by simp [results, Tryz.results83, go_sem]) rfl ?_;rw [HRE.out];exact ⟨_, rfl, Kd.R_nil _ _ _ _ _, HBX.out _⟩
   have d5 : decide (65535 < x.f1) = false := decide_eq_false hfar
   have HF2 := hI (show ∀ y ∈ X.take (i + 1), y.f1 ≤ 65535 from fun y hy => by
    rw [HTX.out] at hy;rcases List.mem_append.1 hy with hy | hy
    · exact HF.out y hy
    rw [List.mem_singleton.1 hy]; omega)
   have hcb : cntR (X.take i) ≤ 65536 * 65536 := by
    have h1 := cntR_bd (X.take i) (fun y hy => ⟨HXR.out y (List.mem_of_mem_take hy), HF.out y hy⟩);have h2 : (X.take i).length ≤ 65536 := by rw [List.length_take, ← HN.out]; have := HXL.out; omega
    omega
   have hxb := (right_iff x).1 HRX.out;have hw1 : wrap64 (x.f1 - x.f0) = x.f1 - x.f0 := by unfold wrap64; omega
   have hw2 : wrap64 (x.f1 - x.f0 + 1) = x.f1 - x.f0 + 1 := by unfold wrap64; omega
   have hw3 : wrap64 ((cntR (X.take i) : Int) + (x.f1 - x.f0 + 1)) = (cntR (X.take i) : Int) + (x.f1 - x.f0 + 1) := by unfold wrap64; omega
   have HXB := hI hxb;have HW3 := hI hw3;clear hfar hcb hxb;go_wp2_with fail
   refine (segment_row.calls x.f0 x.f1 x.f2 x.f3 (rowN x) _ (row_some x)).mono ?_;rintro e w4 ⟨rfl, hb4⟩;obtain ⟨wx, hwx⟩ : ∃ wx, wx = wr.alloc (.cells #[.int .i64 x.f0, .int .i64 x.f1, .int .i64 x.f2, .int .i64 x.f3] 61) := ⟨_, rfl⟩;rw [← hwx] at hb4;have hbx : Below wr.heap.size wr wx := by rw [hwx]; exact (Below.refl _ wr).alloc (Nat.le_refl _) _
   have hbox0 : wx.heap[wr.heap.size]? = some (.cells #[.int .i64 x.f0, .int .i64 x.f1, .int .i64 x.f2, .int .i64 x.f3] 61 (0, 0)) := by rw [hwx]; exact World.alloc_heap_new wr _
   have hszx : wr.heap.size < wx.heap.size := by rw [hwx]; simp
   have hbox := (hb4.block wr.heap.size hszx).trans hbox0;have HB4 := hI (below_then HB.out HB.out.size (hbx.trans (hb4.mono hbx.size)));have b0 : w4.cell? ⟨wr.heap.size, 0, none⟩ = some (.int .i64 x.f0) := (blk_cell hbox 0).trans rfl;have b1 : w4.cell? ⟨wr.heap.size, 1, none⟩ = some (.int .i64 x.f1) := (blk_cell hbox 1).trans rfl;clear hb4 hwx hbx hbox0 hszx hbox x0 x1 x2 x3;cases hrow : rowN x with
   | true =>
    have HC := hI (show ((cntR (X.take (i + 1)) : Nat) : Int) = (cntR (X.take i) : Int) + (x.f1 - x.f0 + 1) by
     rw [HSU.out];unfold cntX;rw [hrow, if_pos rfl];have := HXB.out;omega)
    clear hrow;go_wp2;go_roundw
    case rel => exact ⟨i + 1, HLT.out, by rw [HC.out, HW3.out], by rw [hwi], ⟨HF2.out⟩, ⟨HB4.out⟩⟩
    case measure => rw [hwi]; exact less_step (by decide) HLT.out
   | false =>
    have HC := hI (show ((cntR (X.take (i + 1)) : Nat) : Int) = (cntR (X.take i) : Int) by
     rw [HSU.out];unfold cntX;rw [hrow, if_neg (by decide)];rfl)
    clear hrow b0 b1;go_wp2;go_roundw
    case rel => exact ⟨i + 1, HLT.out, by rw [HC.out], by rw [hwi], ⟨HF2.out⟩, ⟨HB4.out⟩⟩
    case measure => rw [hwi]; exact less_step (by decide) HLT.out
  have hin : i = n := by omega
  subst hin;have d3 : decide ((i : Int) < (i : Int)) = false := decide_eq_false (by omega);have htk : X.take i = X := List.take_of_length_le (by rw [← HN.out]; exact Nat.le_refl _);rw [htk] at HF ⊢
  have HFS := hI (show ¬ farS X = true from fun hh => by
   obtain ⟨x, hx, hx2⟩ := List.any_eq_true.1 hh;have := HF.out x hx;have := of_decide_eq_true hx2;omega)
  have HVW := hI (Kd.R_below HV3.out HB.out);have HBW := hI (HB3.out.trans (HB.out.mono HB3.out.size));obtain ⟨G, hG⟩ : ∃ G : Int, G = (cntR X : Int) := ⟨_, rfl⟩
  have HGB := hI (show 0 ≤ G ∧ G ≤ 4294967296 by
   have h1 := cntR_bd X (fun y hy => ⟨HXR.out y hy, HF.out y hy⟩);have h2 := HXL.out;have h3 := HN.out;rw [hG]; omega)
  rw [← hG];have HG := hI hG;clear htk hG hlt hi;by_cases hn0 : i = 0
  ·
   have d4 : ((i : Int) == 0) = true := by simpa using hn0
   have HCL := hI (show closeL X = X ++ [sentS] by unfold closeL tailS; rw [if_pos (.inl (by rw [← HN.out]; exact hn0))]);clear hn0;go_upto_region 15 with (first | ((with_reducible refine gate_builtin (b := .append) (xs := #[.tmp 47, .tmp 49]) rfl ?_); at_builtin; refine Kd.R_append k61 (w0 := w) w.heap.size rfl (.tmp 47) (.tmp 49) 22 61 (.agg #[(.int .i64 0), (.int .i64 0), (.int .i64 0), (.int .i64 0)]) 32 rfl Tryz.underlying22 info61 rfl (by decide) (by decide) _ X sentS [.int .i64 65535, .int .i64 65535, .int .i64 0, .int .i64 1] (fun _ => True) (fun _ => False) rfl rfl (k61_mkM _ _ _ sentS) (fun _ hk => hk.elim) (fun _ _ => trivial) HVW.out HBW.out HBW.out.size (by have := HXL.out; have := HN.out; omega) ?_; intro v5 w5 ho hb hg hat; have HV5 := hI ho; have HB5 := hI hb; clear ho hb hg hat))
   obtain ⟨A5, k5, rfl⟩ := Kd.R_slice HV5.out;obtain ⟨m, hm⟩ : ∃ m, m = (closeL X).length := ⟨_, rfl⟩;have HM := hI hm
   have HRW := hI (show ∀ ys : List S61, ys = closeL X → (if 65535 < 16 + 8 * (m : Int) + 2 * G then (([] : List S61), (0 : Int), (7 : Int)) else (ys, G, 0)) = r from fun ys hys => by
    rw [← HR.out, if_neg HFS.out, hys];have e1 : (65535 < 16 + 8 * (m : Int) + 2 * G) ↔ 65535 < 16 + 8 * (closeL X).length + 2 * cntR X := by rw [HG.out, hm]; omega
    by_cases hq : 65535 < 16 + 8 * (m : Int) + 2 * G
    · rw [if_pos hq, if_pos (e1.1 hq)]
    rw [if_neg hq, if_neg (fun hh => hq (e1.2 hh)), HG.out])
   have hml : m ≤ 65537 := by
    rw [hm]; unfold closeL tailS;have h1 := HXL.out;have h2 := HN.out;split <;> simp <;> omega
   rw [show (X ++ [sentS]).length = m by rw [hm, HCL.out]] at HV5 ⊢;rw [show X ++ [sentS] = closeL X from HCL.out.symm] at HV5;have HV6 := HV5;have u1 : wrap64 (8 * (m : Int)) = 8 * (m : Int) := by unfold wrap64; omega
   have u2 : wrap64 (16 + 8 * (m : Int)) = 16 + 8 * (m : Int) := by unfold wrap64; omega
   have u3 : wrap64 (2 * G) = 2 * G := by have := HGB.out; unfold wrap64; omega
   have u4 : wrap64 (16 + 8 * (m : Int) + 2 * G) = 16 + 8 * (m : Int) + 2 * G := by have := HGB.out; unfold wrap64; omega
   clear hm hml;by_cases hbig : 65535 < 16 + 8 * (m : Int) + 2 * G
   ·
    have d8 : decide (65535 < 16 + 8 * (m : Int) + 2 * G) = true := decide_eq_true hbig;have HRE := hI (show r = ([], 0, 7) by rw [← HRW.out _ rfl, if_pos hbig]);clear hbig;go_wp2;refine bodyPost_ret (v := .tuple #[.slice none 0 0, .int .i64 0, .int .i64 7]) (by simp [results, Tryz.results83, go_sem]) rfl ?_;rw [HRE.out];exact ⟨_, rfl, Kd.R_nil _ _ _ _ _, HB5.out⟩
   have d8 : decide (65535 < 16 + 8 * (m : Int) + 2 * G) = false := decide_eq_false hbig;have HRE := hI (show r = (closeL X, G, 0) by rw [← HRW.out _ rfl, if_neg hbig]);clear hbig;go_wp2;refine bodyPost_ret (v := .tuple #[.slice A5 m k5, .int .i64 G, .int .i64 0]) (by simp [results, Tryz.results83, go_sem]) rfl ?_;rw [HRE.out];exact ⟨_, rfl, HV6.out, HB5.out⟩
  obtain ⟨q, hq⟩ : ∃ q, i = q + 1 := ⟨i - 1, by omega⟩;have d4 : ((i : Int) == 0) = false := beq_eq_false_iff_ne.2 (by omega);have hwq : wrap64 ((i : Int) - 1) = (q : Int) := by have := HXL.out; unfold wrap64; omega
  have p0 : (0 : Int) ≤ (q : Int) := by omega
  have p1 : (q : Int) < (i : Int) := by omega
  obtain ⟨ad, rfl, x0, x1, x2, x3⟩ := at_T61 HC3.out (q : Int) p0 p1;rw [rd_atS] at x1;rw [Int.toNat_natCast] at x1;replace x1 := kM HB.out x1;obtain ⟨z, hz1⟩ : ∃ z, z = (atS X q).f1 := ⟨_, rfl⟩;rw [← hz1] at x1
  have HQ := hI (show (X.length = 0 ∨ (atS X (X.length - 1)).f1 < 65535) ↔ z < 65535 by
   have h3 := HN.out;rw [hz1, show X.length - 1 = q by omega];constructor
   ·
    rintro (h | h)
    · omega
    exact h
   exact fun h => .inr h)
  clear x0 x2 x3 hz1 hn0 hq;replace p0 := eq_true p0;replace p1 := eq_true p1;by_cases hlast : z < 65535
  ·
   have d5 : decide (z < 65535) = true := decide_eq_true hlast;have HCL := hI (show closeL X = X ++ [sentS] by unfold closeL tailS; rw [if_pos (HQ.out.2 hlast)]);clear hlast;go_upto_region 15 with (first | ((with_reducible refine gate_builtin (b := .append) (xs := #[.tmp 47, .tmp 49]) rfl ?_); at_builtin; refine Kd.R_append k61 (w0 := w) w.heap.size rfl (.tmp 47) (.tmp 49) 22 61 (.agg #[(.int .i64 0), (.int .i64 0), (.int .i64 0), (.int .i64 0)]) 32 rfl Tryz.underlying22 info61 rfl (by decide) (by decide) _ X sentS [.int .i64 65535, .int .i64 65535, .int .i64 0, .int .i64 1] (fun _ => True) (fun _ => False) rfl rfl (k61_mkM _ _ _ sentS) (fun _ hk => hk.elim) (fun _ _ => trivial) HVW.out HBW.out HBW.out.size (by have := HXL.out; have := HN.out; omega) ?_; intro v5 w5 ho hb hg hat; have HV5 := hI ho; have HB5 := hI hb; clear ho hb hg hat))
   obtain ⟨A5, k5, rfl⟩ := Kd.R_slice HV5.out;obtain ⟨m, hm⟩ : ∃ m, m = (closeL X).length := ⟨_, rfl⟩;have HM := hI hm
   have HRW := hI (show ∀ ys : List S61, ys = closeL X → (if 65535 < 16 + 8 * (m : Int) + 2 * G then (([] : List S61), (0 : Int), (7 : Int)) else (ys, G, 0)) = r from fun ys hys => by
    rw [← HR.out, if_neg HFS.out, hys];have e1 : (65535 < 16 + 8 * (m : Int) + 2 * G) ↔ 65535 < 16 + 8 * (closeL X).length + 2 * cntR X := by rw [HG.out, hm]; omega
    by_cases hq : 65535 < 16 + 8 * (m : Int) + 2 * G
    · rw [if_pos hq, if_pos (e1.1 hq)]
    rw [if_neg hq, if_neg (fun hh => hq (e1.2 hh)), HG.out])
   have hml : m ≤ 65537 := by
    rw [hm]; unfold closeL tailS;have h1 := HXL.out;have h2 := HN.out;split <;> simp <;> omega
   rw [show (X ++ [sentS]).length = m by rw [hm, HCL.out]] at HV5 ⊢;rw [show X ++ [sentS] = closeL X from HCL.out.symm] at HV5;have HV6 := HV5;have u1 : wrap64 (8 * (m : Int)) = 8 * (m : Int) := by unfold wrap64; omega
   have u2 : wrap64 (16 + 8 * (m : Int)) = 16 + 8 * (m : Int) := by unfold wrap64; omega
   have u3 : wrap64 (2 * G) = 2 * G := by have := HGB.out; unfold wrap64; omega
   have u4 : wrap64 (16 + 8 * (m : Int) + 2 * G) = 16 + 8 * (m : Int) + 2 * G := by have := HGB.out; unfold wrap64; omega
   clear hm hml;by_cases hbig : 65535 < 16 + 8 * (m : Int) + 2 * G
   ·
    have d8 : decide (65535 < 16 + 8 * (m : Int) + 2 * G) = true := decide_eq_true hbig;have HRE := hI (show r = ([], 0, 7) by rw [← HRW.out _ rfl, if_pos hbig]);clear hbig;go_wp2;refine bodyPost_ret (v := .tuple #[.slice none 0 0, .int .i64 0, .int .i64 7]) (by simp [results, Tryz.results83, go_sem]) rfl ?_;rw [HRE.out];exact ⟨_, rfl, Kd.R_nil _ _ _ _ _, HB5.out⟩
   have d8 : decide (65535 < 16 + 8 * (m : Int) + 2 * G) = false := decide_eq_false hbig;have HRE := hI (show r = (closeL X, G, 0) by rw [← HRW.out _ rfl, if_neg hbig]);clear hbig;go_wp2;refine bodyPost_ret (v := .tuple #[.slice A5 m k5, .int .i64 G, .int .i64 0]) (by simp [results, Tryz.results83, go_sem]) rfl ?_;rw [HRE.out];exact ⟨_, rfl, HV6.out, HB5.out⟩
  have d5 : decide (z < 65535) = false := decide_eq_false hlast;have HCL := hI (show closeL X = X by unfold closeL tailS; rw [if_neg (fun h => hlast (HQ.out.1 h)), List.append_nil]);clear hlast;go_upto_region 15 with (fail)
  have hm : i = (closeL X).length := by rw [HCL.out, ← HN.out]
  have HM := hI hm
  have HRW := hI (show ∀ ys : List S61, ys = closeL X → (if 65535 < 16 + 8 * (i : Int) + 2 * G then (([] : List S61), (0 : Int), (7 : Int)) else (ys, G, 0)) = r from fun ys hys => by
   rw [← HR.out, if_neg HFS.out, hys];have e1 : (65535 < 16 + 8 * (i : Int) + 2 * G) ↔ 65535 < 16 + 8 * (closeL X).length + 2 * cntR X := by rw [HG.out, hm]; omega
   by_cases hq : 65535 < 16 + 8 * (i : Int) + 2 * G
   · rw [if_pos hq, if_pos (e1.1 hq)]
   rw [if_neg hq, if_neg (fun hh => hq (e1.2 hh)), HG.out])
  have hml : i ≤ 65537 := by
   rw [hm]; unfold closeL tailS;have h1 := HXL.out;have h2 := HN.out;split <;> simp <;> omega
  have HV6 := hI (show Kd.R k61 61 wr w.heap.size (fun _ => True) (.slice (some ad) i c3) (closeL X) by rw [HCL.out]; exact HVW.out);have u1 : wrap64 (8 * (i : Int)) = 8 * (i : Int) := by unfold wrap64; omega
  have u2 : wrap64 (16 + 8 * (i : Int)) = 16 + 8 * (i : Int) := by unfold wrap64; omega
  have u3 : wrap64 (2 * G) = 2 * G := by have := HGB.out; unfold wrap64; omega
  have u4 : wrap64 (16 + 8 * (i : Int) + 2 * G) = 16 + 8 * (i : Int) + 2 * G := by have := HGB.out; unfold wrap64; omega
  clear hm hml;by_cases hbig : 65535 < 16 + 8 * (i : Int) + 2 * G
  ·
   have d8 : decide (65535 < 16 + 8 * (i : Int) + 2 * G) = true := decide_eq_true hbig;have HRE := hI (show r = ([], 0, 7) by rw [← HRW.out _ rfl, if_pos hbig]);clear hbig;go_wp2;refine bodyPost_ret (v := .tuple #[.slice none 0 0, .int .i64 0, .int .i64 7]) (by simp [results, Tryz.results83, go_sem]) rfl ?_;rw [HRE.out];exact ⟨_, rfl, Kd.R_nil _ _ _ _ _, HBW.out⟩
  have d8 : decide (65535 < 16 + 8 * (i : Int) + 2 * G) = false := decide_eq_false hbig;have HRE := hI (show r = (closeL X, G, 0) by rw [← HRW.out _ rfl, if_neg hbig]);clear hbig;go_wp2;refine bodyPost_ret (v := .tuple #[.slice (some ad) i c3, .int .i64 G, .int .i64 0]) (by simp [results, Tryz.results83, go_sem]) rfl ?_;rw [HRE.out];exact ⟨_, rfl, HV6.out, HBW.out⟩
theorem segs_arg (A0 : Option Addr) (c0 : Nat) (l : List S61) (w : World) (hr0 : Kd.C k61 w A0 l.length l) (hc0 : l.length ≤ c0) (hi : isL l = false) :
  Calls Tryz.prog 83 #[.slice A0 l.length c0] w fun e w' => ∃ v0_ : Value, e = .returned (.tuple #[v0_, .int .i64 0, .int .i64 1]) ∧ Kd.R k61 61 w' w.heap.size (fun _ => True) v0_ [] ∧ Below w.heap.size w w' := by
 have H1 := hI (chart_Is.calls A0 c0 l false w hr0 hc0 (by unfold chart_Is.f; rw [hi]));clear hr0 hc0 hi;go_enter Tryz.func83, Tryz.ntmps83;go_wp2_with fail
 refine H1.out.mono ?_;rintro e w1 ⟨rfl, hb⟩;have HB1 := hI hb;clear hb;go_wp2;refine bodyPost_ret (v := .tuple #[.slice none 0 0, .int .i64 0, .int .i64 1]) (by simp [results, Tryz.results83, go_sem]) rfl ?_;exact ⟨_, rfl, Kd.R_nil _ _ _ _ _, HB1.out⟩
def segment_segments.f (l0 : List S61) : Option (List S61 × Int × Int) := some (segP l0)
theorem segment_segments.calls (A0 : Option Addr) (c0 : Nat) (l0 : List S61) (r1 : List S61) (r2 r3 : Int) (w : World) (hr0 : Kd.C k61 w A0 l0.length l0) (hc0 : l0.length ≤ c0) (h : segment_segments.f l0 = some (r1, r2, r3)) :
  Calls Tryz.prog 83 #[.slice A0 l0.length c0] w fun e w' => ∃ v0_ : Value, e = .returned (.tuple #[v0_, .int .i64 r2, .int .i64 r3]) ∧ Kd.R k61 61 w' w.heap.size (fun _ => True) v0_ r1 ∧ Below w.heap.size w w' := by
 have hr := Option.some.inj h;cases hi : isL l0 with
 | true => exact segs_walk A0 c0 l0 w hr0 hc0 hi (r1, r2, r3) hr
 | false =>
  unfold segP at hr;rw [hi, if_pos rfl] at hr;obtain ⟨e1, hr⟩ := Prod.mk.inj hr;obtain ⟨e2, e3⟩ := Prod.mk.inj hr;rw [← e1, ← e2, ← e3];exact segs_arg A0 c0 l0 w hr0 hc0 hi
end Go.Proofs.YtejdflndgnpkcaaGreat.P
end
section
namespace Go.Proofs.YtejdflndgnpkcaaGreat.P
open Go.RowKit PW PL PM
structure Keep4 (W U : World) : Prop where
 s : W.heap.size ≤ U.heap.size
 k : ∀ (b : Nat) (cs : Array Value) (t : TypeId), t ≠ 3 → t ≠ 35 → W.heap[b]? = some (.cells cs t (0, 0)) → U.heap[b]? = some (.cells cs t (0, 0))
namespace Keep4
variable {W U V : World}
theorem refl (W : World) : Keep4 W W := ⟨Nat.le_refl _, fun _ _ _ _ _ h => h⟩
theorem trans (h : Keep4 W U) (k : Keep4 U V) : Keep4 W V := ⟨Nat.le_trans h.s k.s, fun b cs t h1 h2 hb => k.k b cs t h1 h2 (h.k b cs t h1 h2 hb)⟩
theorem below (h : Below W.heap.size W U) : Keep4 W U := ⟨h.size, fun b cs t _ _ hb => (h.block b (blk_lt hb)).trans hb⟩
theorem set {g : Nat} {ct : Array Value} {e : TypeId} (hg : W.heap[g]? = some (.cells ct e (0, 0))) (he : e = 3 ∨ e = 35) (j : Nat) (v : Value) : Keep4 W (W.setCell ⟨g, j, none⟩ v) :=
 ⟨by simp, fun b cs t h1 h2 hb => by
  have hne : b ≠ g := fun e2 => by
   subst e2;rw [hg] at hb;injection hb with hb
   injection hb with _ hb
   subst hb;rcases he with he | he
   · exact h1 he
   exact h2 he
  exact (Below.heap_setCell W _ v b hne).trans hb⟩
theorem grown {row : Option Nat} (hg : W.grownBy U row) (hr : ∀ k, row = some k → ∃ cells, W.heap[k]? = some (.cells cells 3 (0, 0))) : Keep4 W U :=
 ⟨hg.size, fun b cs t h1 h2 hb => by
  refine (hg.block b (blk_lt hb) (fun e => ?_)).trans hb;obtain ⟨cells, hc⟩ := hr b e.symm;rw [hb] at hc;injection hc with hc
  injection hc with _ hc
  exact h1 hc⟩
end Keep4
theorem one_cell {W : World} {b : Nat} {v : Value} {t : TypeId} (h : W.heap[b]? = some (.cells #[v] t (0, 0))) : W.cell? ⟨b, 0, none⟩ = some v ∧ W.frozen? ⟨b, 0, none⟩ = false := ⟨(blk_cell h 0).trans rfl, Lib.frozen_of_heap h 0⟩
theorem set_one {W : World} {b : Nat} {v : Value} {t : TypeId} (h : W.heap[b]? = some (.cells #[v] t (0, 0))) (u : Value) : (W.setCell ⟨b, 0, none⟩ u).heap[b]? = some (.cells #[u] t (0, 0)) := by
 have := blk_set h 0 u;simpa using this
theorem row_typed {W : World} {base : Nat} {ok : Nat → Prop} {v : Value} {xs : List Int} (h : Kd.R (Kd.int .i64) 3 W base ok v xs) (k : Nat) (hk : v.ownBlock = some k) : k < W.heap.size ∧ base ≤ k ∧ ok k ∧ ∃ cells, W.heap[k]? = some (.cells cells 3 (0, 0)) := by
 obtain ⟨h0, inner, ho, _⟩ := h;exact ⟨own_lt ho k hk, own_base ho k hk, h0 k hk, own_typed ho k hk⟩
theorem put1_calls (ob : Nat) (w0 W : World) (base : Nat) (ok : Nat → Prop) (vo : Value) (xs ys : List Int) (A : Option Addr) (m c : Nat)
  (co : W.heap[ob]? = some (.cells #[vo] 35 (0, 0))) (ro : Kd.R (Kd.int .i64) 3 W base ok vo xs) (hok : ∀ k, W.heap.size ≤ k → ok k) (hB : Below base w0 W) (hbase : base ≤ W.heap.size)
  (hA : Kd.C (Kd.int .i64) W A m ys) (hlen : (xs.length + m) * 8 ≤ 140737488355328) :
  Calls Tryz.prog 85 #[.slice A m c, .pointer (some ⟨ob, 0, none⟩)] W fun e w' => (∃ v, e = .returned v) ∧ ∃ U v1, w' = U.setCell ⟨ob, 0, none⟩ v1 ∧ Kd.R (Kd.int .i64) 3 U base ok v1 (xs ++ ys) ∧ Below base w0 U ∧ W.grownBy U vo.ownBlock ∧
   (v1.ownBlock = vo.ownBlock ∨ ∃ b, v1.ownBlock = some b ∧ W.heap.size ≤ b) ∧ U.heap[ob]? = some (.cells #[vo] 35 (0, 0)) := by
 obtain ⟨Av, kv, rfl⟩ := Kd.R_slice ro;have CO := hI co;have RO := hI ro;have HOK := hI hok;have HB := hI hB;have HBS := hI hbase;have HA := hI hA;have HL := hI hlen;obtain ⟨c0, f0⟩ := one_cell co;clear co ro hok hB hbase hA hlen;go_enter Tryz.func85, Tryz.ntmps85;go_wp2_with (first | ((with_reducible refine gate_builtin (b := .append) (xs := #[.tmp 3, .tmp 4]) rfl ?_); at_builtin; refine Kd.R_append_rows (Kd.int .i64) (w0 := w0) base rfl (.tmp 3) (.tmp 4) 35 3 (.int .i64 0) 8 rfl Tryz.underlying35 intInfo rfl (by decide) (by decide) (.slice Av xs.length kv) xs ys A m c ok (fun _ => False) rfl rfl RO.out HA.out (fun _ _ h => h) (fun _ h => h.elim) HOK.out HB.out HBS.out HL.out ?_; intro v1 U hv hb hg hat; obtain ⟨A1, k1, rfl⟩ := Kd.R_slice hv; generalize (xs ++ ys).length = q at hv hat ⊢; have hco := (hg.block ob (blk_lt CO.out) (fun e => by obtain ⟨_, _, _, cells, hcc⟩ := row_typed RO.out ob e.symm; rw [CO.out] at hcc; injection hcc with hcc; injection hcc with _ hcc; exact absurd hcc (by decide))).trans CO.out; obtain ⟨c1, f1⟩ := one_cell hco; have HV := hI hv; have HB1 := hI hb; have HG := hI hg; have HAT := hI hat; have HCO := hI hco; clear hv hb hg hat hco))
 go_end0
 exact ⟨⟨_, rfl⟩, _, _, rfl, HV.out, HB1.out, HG.out, HAT.out, HCO.out⟩
end Go.Proofs.YtejdflndgnpkcaaGreat.P
end
section
namespace Go.Proofs.YtejdflndgnpkcaaGreat.P
open Go.RowKit PW PL PM
theorem each_walk (K : Nat) (caps : Array Value) (he : EntersK K) (lb pb ob : Nat) (AL : Option Addr) (n c : Nat) (L : List S61) (W0 : World) (hn : n = L.length) (hn2 : n ≤ 70000)
  (hlb : W0.heap[lb]? = some (.cells #[.slice AL n c] 22 (0, 0)))
  (hpb : W0.heap[pb]? = some (.cells #[.func (.func 85) #[] #[.pointer (some ⟨ob, 0, none⟩)]] 112 (0, 0)))
  (hC : Kd.C k61 W0 AL n L) (hT : ∀ a, AL = some a → ∃ cur, W0.heap[a.block]? = some (.cells cur 61 (0, 0)))
  (g : Nat → Int) (J J' : Nat → World → Prop) (h0 : J 0 W0) (hJb : ∀ i W W', J i W → Below W.heap.size W W' → J i W') (hJb' : ∀ i W W', J' i W → Below W.heap.size W W' → J' i W')
  (hof : ∀ i W, i < n → J i W → Keep4 W0 W → Calls Tryz.prog K (#[.agg #[.int .i64 (atS L i).f0, .int .i64 (atS L i).f1, .int .i64 (atS L i).f2, .int .i64 (atS L i).f3]] ++ caps) W fun e w' => e = .returned (.int .i64 (g i)) ∧ J' i w' ∧ Keep4 W w')
  (hput : ∀ i W A, i < n → J' i W → Kd.C (Kd.int .i64) W A 1 [g i] → Calls Tryz.prog 85 #[.slice A 1 1, .pointer (some ⟨ob, 0, none⟩)] W fun e w' => (∃ v, e = .returned v) ∧ J (i + 1) w' ∧ Keep4 W w') :
  Calls Tryz.prog 86 #[.func (.func K) #[] caps, .pointer (some ⟨lb, 0, none⟩), .pointer (some ⟨pb, 0, none⟩)] W0 fun e w' => (∃ v, e = .returned v) ∧ J n w' ∧ Keep4 W0 w' := by
 have HN := hI hn;have HN2 := hI hn2;have HLB := hI hlb;have HPB := hI hpb;have HC := hI hC;have HT := hI hT;have H0 := hI h0;have HJB := hI hJb;have HJB' := hI hJb';have HOF := hI hof;have HPUT := hI hput;obtain ⟨l0, _⟩ := one_cell hlb;unfold EntersK at he;clear hn hn2 hlb hpb hC hT h0 hJb hJb' hof hput;go_enter Tryz.func86, Tryz.ntmps86;go_wp2_with fail
 clear l0;go_loopw [8] (fun v8 wr => ∃ i : Nat, i ≤ n ∧ v8 = .int .i64 (i : Int) ∧ Aside0 (J i wr) ∧ Aside0 (Keep4 W0 wr)) (fun v8 _ => n - (intOf v8).toNat)
 case atStart => exact ⟨0, Nat.zero_le _, rfl, ⟨H0.out⟩, ⟨Keep4.refl _⟩⟩
 case round =>
  obtain ⟨i, hi, rfl, HJ, HK⟩ := hrel;by_cases hlt : i < n
  ·
   have p0 : (0 : Int) ≤ (i : Int) := by omega
   have p1 : (i : Int) < (n : Int) := by omega
   have d3 : decide ((i : Int) < (n : Int)) = true := decide_eq_true p1;have hwi : wrap64 ((i : Int) + 1) = ((i + 1 : Nat) : Int) := by have := HN2.out; unfold wrap64; omega
   obtain ⟨ad, rfl, x0, x1, x2, x3⟩ := at_T61 HC.out (i : Int) p0 p1;rw [rd_atS] at x0 x1 x2 x3;rw [Int.toNat_natCast] at x0 x1 x2 x3;obtain ⟨cur, hcur⟩ := HT.out ad rfl
   have hblk : wr.heap[(ad.add (i * 4)).block]? = W0.heap[(ad.add (i * 4)).block]? := by
    have e : (ad.add (i * 4)).block = ad.block := by unfold Addr.add; split <;> rfl
    rw [e, hcur];exact HK.out.k _ _ _ (by decide) (by decide) hcur
   replace x0 := (cell_of hblk).trans x0;replace x1 := (cell_of (a := ⟨(ad.add (i * 4)).block, (ad.add (i * 4)).off + 1, none⟩) hblk).trans x1;replace x2 := (cell_of (a := ⟨(ad.add (i * 4)).block, (ad.add (i * 4)).off + 2, none⟩) hblk).trans x2;replace x3 := (cell_of (a := ⟨(ad.add (i * 4)).block, (ad.add (i * 4)).off + 3, none⟩) hblk).trans x3;have hpbr := HK.out.k _ _ _ (by decide) (by decide) HPB.out;have HOFI := hI (HOF.out i);have HPI := hI (HPUT.out i);obtain ⟨x, hx⟩ : ∃ x, x = atS L i := ⟨_, rfl⟩;rw [← hx] at x0 x1 x2 x3 HOFI;obtain ⟨gi, hgi⟩ : ∃ gi, gi = g i := ⟨_, rfl⟩;rw [← hgi] at HOFI HPI;have HLT := hI hlt;have HPR := hI hpbr;clear hx hgi hcur hblk hpbr hlt hi;replace p0 := eq_true p0;replace p1 := eq_true p1;go_wp2_with fail
   clear x0 x1 x2 x3;obtain ⟨wx, hwx⟩ : ∃ wx, wx = wr.alloc (.cells #[.int .i64 x.f0, .int .i64 x.f1, .int .i64 x.f2, .int .i64 x.f3] 61) := ⟨_, rfl⟩;obtain ⟨b5, hb5⟩ : ∃ b5, b5 = wr.heap.size := ⟨_, rfl⟩;rw [← hwx, ← hb5];have hbx : Below wr.heap.size wr wx := by rw [hwx]; exact (Below.refl _ wr).alloc (Nat.le_refl _) _
   have HX5 := hI (show wx.heap[b5]? = some (.cells #[.int .i64 x.f0, .int .i64 x.f1, .int .i64 x.f2, .int .i64 x.f3] 61 (0, 0)) by rw [hwx, hb5]; exact World.alloc_heap_new wr _);have HXP := hI ((hbx.block pb (blk_lt HPR.out)).trans HPR.out);have HXJ := hI (HJB.out i wr wx HJ.out hbx);have HXK := hI (HK.out.trans (Keep4.below hbx));clear hwx hb5 hbx;refine wp_mono (Q := Exit.then ?_ (fun _ _ _ => False)) ?_ ?_;rotate_left 2
   ·
    intro e a w h;cases e with
    | normal => exact h
    | _ => exact (show False from h).elim
   refine bg_ 6 (fun u => u.heap[b5]? = some (.cells #[.int .i64 x.f0, .int .i64 x.f1, .int .i64 x.f2, .int .i64 x.f3] 61 (0, 0)) ∧ u.heap[pb]? = some (.cells #[.func (.func 85) #[] #[.pointer (some ⟨ob, 0, none⟩)]] 112 (0, 0))) ⟨HX5.out, HXP.out⟩ (fun hHeld => ?_);obtain ⟨wd, hwd⟩ : ∃ wd, wd = wx.drew := ⟨_, rfl⟩;have hbd : Below wx.heap.size wx wd := by rw [hwd]; exact below_drew1 (Below.refl _ _)
   rw [← hwd] at hHeld ⊢;have HDJ := hI (HJB.out i wx wd HXJ.out hbd);have HDK := hI (HXK.out.trans (Keep4.below hbd));clear hwd hbd;refine pS_ 1 13 ?_;refine take_ (i := 0) (N := some 12) (v := ?_) (a' := ?_) #[true, true, false, false, false, false] rfl rfl (by kernel_rfl) (fun _ _ _ h => h) (Or.inl ⟨by rfl, ?_⟩) hHeld ?_ ?_;rotate_left
   ·
    rintro w' s0;obtain ⟨t0, t1⟩ := s0;have q0 := (one_cell t1).1;have z0 : w'.cell? ⟨b5, 0, none⟩ = some (.int .i64 x.f0) := (blk_cell t0 0).trans rfl;have z1 : w'.cell? ⟨b5, 1, none⟩ = some (.int .i64 x.f1) := (blk_cell t0 1).trans rfl;have z2 : w'.cell? ⟨b5, 2, none⟩ = some (.int .i64 x.f2) := (blk_cell t0 2).trans rfl;have z3 : w'.cell? ⟨b5, 3, none⟩ = some (.int .i64 x.f3) := (blk_cell t0 3).trans rfl;clear t0 t1;go_simp
    with_reducible rfl
   rotate_left
   ·
    simp only [Act.put, List.setIfInBounds_toArray, List.set_cons_zero, List.set_cons_succ, i64_w, i32_w];rfl
   refine take_ (i := 2) (N := some 14) (v := ?_) (a' := ?_) #[true, true, true, false, false, false] rfl rfl (by kernel_rfl) (fun _ _ _ h => h) (Or.inl ⟨by rfl, ?_⟩) hHeld ?_ ?_;rotate_left
   ·
    rintro w' s0;obtain ⟨t0, t1⟩ := s0;have q0 := (one_cell t1).1;have z0 : w'.cell? ⟨b5, 0, none⟩ = some (.int .i64 x.f0) := (blk_cell t0 0).trans rfl;have z1 : w'.cell? ⟨b5, 1, none⟩ = some (.int .i64 x.f1) := (blk_cell t0 1).trans rfl;have z2 : w'.cell? ⟨b5, 2, none⟩ = some (.int .i64 x.f2) := (blk_cell t0 2).trans rfl;have z3 : w'.cell? ⟨b5, 3, none⟩ = some (.int .i64 x.f3) := (blk_cell t0 3).trans rfl;clear t0 t1;go_simp
    with_reducible rfl
   rotate_left
   ·
    simp only [Act.put, List.setIfInBounds_toArray, List.set_cons_zero, List.set_cons_succ, i64_w, i32_w];rfl
   refine oS_ 3 15 (fun K hK => ?_);go_simp
   refine (HOFI.out wd HLT.out HDJ.out HDK.out).mono ?_;rintro e w1 ⟨rfl, hj1, hk1⟩;have HJ1 := hI hj1;have HK1 := hI (HDK.out.trans hk1);dsimp only
   refine hK.out _ _ ⟨hk1.k _ _ _ (by decide) (by decide) hHeld.1, hk1.k _ _ _ (by decide) (by decide) hHeld.2⟩ (fun hHeld2 => ?_);clear hK hj1 hk1;refine oS_ 4 16 (fun K hK => ?_);refine vS_ ?_;have hbl : Below w1.heap.size w1 (w1.alloc (.cells #[.int .i64 gi] 3)) := (Below.refl _ w1).alloc (Nat.le_refl _) _;have HA := hI (show Kd.C (Kd.int .i64) (w1.alloc (.cells #[.int .i64 gi] 3)) (some ⟨w1.heap.size, 0, none⟩) 1 [gi] from lit_C w1 [gi] (by simp [maxLen]));have HJ2 := hI (HJB'.out i _ _ HJ1.out hbl);have HK2 := hI (HK1.out.trans (Keep4.below hbl));refine hK.out _ _ ⟨(hbl.block b5 (blk_lt hHeld2.1)).trans hHeld2.1, (hbl.block pb (blk_lt hHeld2.2)).trans hHeld2.2⟩ (fun hHeld3 => ?_);clear hK hbl;refine nS_ ?_;obtain ⟨w2, hw2⟩ : ∃ w2, w2 = w1.alloc (.cells #[.int .i64 gi] 3) := ⟨_, rfl⟩;obtain ⟨b6, hb6⟩ : ∃ b6, b6 = w1.heap.size := ⟨_, rfl⟩;rw [← hw2] at HA HJ2 HK2 hHeld3 ⊢;rw [← hb6] at HA ⊢;clear hw2 hb6;refine oS_ 5 17 (fun K hK => ?_);go_simp
   refine (HPI.out w2 _ HLT.out HJ2.out HA.out).mono ?_;rintro e w3 ⟨⟨v3, rfl⟩, hj3, hk3⟩;have HJ3 := hI hj3;have HK3 := hI (HK2.out.trans hk3);dsimp only
   refine hK.out _ _ ⟨hk3.k _ _ _ (by decide) (by decide) hHeld3.1, hk3.k _ _ _ (by decide) (by decide) hHeld3.2⟩ (fun hHeld4 => ?_);clear hK hj3 hk3;refine dS_ ?_;go_wp2;go_roundw
   case rel => exact ⟨i + 1, HLT.out, by rw [hwi], ⟨HJ3.out⟩, ⟨HK3.out⟩⟩
   case measure => rw [hwi]; exact less_step (by decide) HLT.out
  have hin : i = n := by omega
  subst hin;have d3 : decide ((i : Int) < (i : Int)) = false := decide_eq_false (by omega);go_wp2;go_end0
  exact ⟨⟨_, rfl⟩, HJ.out, HK.out⟩
end Go.Proofs.YtejdflndgnpkcaaGreat.P
end
