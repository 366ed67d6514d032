/- Words, contracts and plain facts of the proof. Each says its own condition. -/
import Derived.Test.YtejdflndgnpkcaaGreatZCmapDoesac
import Derived.Laws.ResultCell
import Derived.Test.YtejdflndgnpkcaaGreatZCmapDoese
import Derived.Test.YtejdflndgnpkcaaGreatZCmapDoesr
import Derived.Test.YtejdflndgnpkcaaGreatZCmapDoest
import Derived.Test.YtejdflndgnpkcaaGreatZCmapDoesv
import Derived.Test.YtejdflndgnpkcaaGreatZCmapDoess
set_option linter.unusedVariables false
set_option maxRecDepth 100000
set_option linter.unusedSimpArgs false
set_option maxHeartbeats 16000000
section
namespace Go.Proofs.YtejdflndgnpkcaaGreat.P
open Go.RowKit PW PL PM
theorem results_cell_tmp_row {fn : Func} {p u : Tmp} {ty : TypeId} (h : fn.results = #[.cell p ty, .tmp u]) (tmps : Array Value) (w : World) (g : Nat) (v : Value)
  (hl : (loadVar ty ⟨g, 0, none⟩).run Tryz.prog w = .ok v w) (hp : tmps.getD p undef = .pointer (some ⟨g, 0, none⟩)) :
  (results fn tmps).run Tryz.prog w = .ok (.tuple #[v, tmps.getD u undef]) w := by
 have hp' : tmps[p]?.getD undef = .pointer (some ⟨g, 0, none⟩) := by simpa using hp
 rw [results_cell_tmp h];simp [hp', asAddr, hl, Result.andThen]
def pickS (o : S47 × Bool) (x : S47) : S47 × Bool := if o.2 = false ∨ o.1.f0 < x.f0 then (x, true) else o
def bestS (l : List S47) : S47 × Bool := l.foldl pickS (⟨0, 0⟩, false)
def atK (l : List S47) (i : Nat) : S47 := l.getD i ⟨0, 0⟩
theorem bestS_succ (l : List S47) (i : Nat) (h : i < l.length) : bestS (l.take (i + 1)) = pickS (bestS (l.take i)) (atK l i) := by
 unfold bestS atK;rw [List.take_add_one, List.getElem?_eq_getElem h, List.foldl_append];simp [List.getD_eq_getElem?_getD, List.getElem?_eq_getElem h]
theorem rd_atK (l : List S47) (i : Nat) : rd_T47 l (i : Int) = atK l i := rfl
theorem keep4 {W U : World} (hb : Below W.heap.size W U) {p q : Nat} {v0 v1 v2 v3 : Value} (h0 : W.cell? ⟨p, 0, none⟩ = some v0) (h1 : W.cell? ⟨p, 1, none⟩ = some v1) (h2 : W.cell? ⟨q, 0, none⟩ = some v2) (h3 : W.cell? ⟨q, 1, none⟩ = some v3) :
  U.cell? ⟨p, 0, none⟩ = some v0 ∧ U.cell? ⟨p, 1, none⟩ = some v1 ∧ U.cell? ⟨q, 0, none⟩ = some v2 ∧ U.cell? ⟨q, 1, none⟩ = some v3 :=
 ⟨kM hb h0, kM hb h1, kM hb h2, kM hb h3⟩
structure PickW (w W : World) (a b : Int) : Prop where
 h : Below w.heap.size w W
 r : W.heap[w.heap.size]? = some (.cells #[.int .i64 0, .int .i64 0] 44 (0, 0))
 c : W.heap[w.heap.size + 1]? = some (.cells #[.int .i64 a, .int .i64 b] 44 (0, 0))
theorem PickW.below {w W U : World} {a b : Int} (h : PickW w W a b) (hb : Below W.heap.size W U) : PickW w U a b :=
 ⟨below_then h.h h.h.size hb, (hb.block _ (blk_lt h.r)).trans h.r, (hb.block _ (blk_lt h.c)).trans h.c⟩
theorem pick_walk (A0 : Option Addr) (c0 : Nat) (l : List S47) (w : World) (hr0 : Kd.C k47 w A0 l.length l) (hc0 : l.length ≤ c0) (hl : l.length ≤ 100000) :
    Calls Tryz.prog 24 #[.slice A0 l.length c0, .func (.func 25) #[] #[]] w fun e w' => e = .returned (.tuple #[.agg #[.int .i64 (bestS l).1.f0, .int .i64 (bestS l).1.f1], .bool (bestS l).2]) ∧ Below w.heap.size w w' := by
  have hz := (zero_of_info (P := Tryz.prog) (t := 44) (v := .agg #[.int .i64 0, .int .i64 0]) (n := 2) (by kernel_rfl)).1;have hu := Tryz.underlying44;have he : EntersK 25 := entersK_of Tryz.func25 (by kernel_rfl) (by kernel_rfl);unfold EntersK at he;have HC := hI hr0;obtain ⟨n, hn⟩ : ∃ n, n = l.length := ⟨_, rfl⟩;have HN := hI hn;have HN2 := hI (show n ≤ 100000 by rw [hn]; exact hl);rw [← hn];clear hr0 hc0 hl hn;go_enter Tryz.func24, Tryz.ntmps24;go_wp2_with fail
  have HP0 := hI (show PickW w ((w.alloc (.cells #[.int .i64 0, .int .i64 0] 44)).alloc (.cells #[.int .i64 0, .int .i64 0] 44)) 0 0 from ⟨((Below.refl _ _).alloc (Nat.le_refl _) _).alloc (by simp) _, heap_alloc2_old _ _ _, heap_alloc2_new _ _ _⟩);go_loopw [12, 7] (fun v12 v7 wr => ∃ (i : Nat) (a b : Int) (is : Bool), i ≤ n ∧ bestS (l.take i) = (⟨a, b⟩, is) ∧ v12 = .int .i64 (i : Int) ∧ v7 = .bool is ∧ Aside0 (PickW w wr a b)) (fun v12 _ _ => n - (intOf v12).toNat)
  case atStart => exact ⟨0, 0, 0, false, Nat.zero_le _, rfl, rfl, rfl, ⟨HP0.out⟩⟩
  case round =>
    obtain ⟨i, a, b, is, hi, hbest, rfl, rfl, HW⟩ := hrel;by_cases hlt : i < n
    · have p0 : (0 : Int) ≤ (i : Int) := by omega
      have p1 : (i : Int) < (n : Int) := by omega
      have d3 : decide ((i : Int) < (n : Int)) = true := decide_eq_true p1;have hwi : wrap64 ((i : Int) + 1) = ((i + 1 : Nat) : Int) := by have := HN2.out; unfold wrap64; omega
      have hil : i < l.length := by rw [← HN.out]; exact hlt
      obtain ⟨ad, rfl, x0, x1⟩ := at_T47 HC.out (i : Int) p0 (by have := HN.out; omega);rw [rd_atK] at x0 x1;have hsu := bestS_succ l i hil;rw [hbest] at hsu;obtain ⟨x, hx⟩ : ∃ x, x = atK l i := ⟨_, rfl⟩;rw [← hx] at x0 x1 hsu;rw [Int.toNat_natCast] at x0 x1;replace x0 := (HW.out.h.cell (World.block_lt_of_cell? _ _ x0)).trans x0;replace x1 := (HW.out.h.cell (World.block_lt_of_cell? _ _ x1)).trans x1;have HSU := hI hsu;have HLT := hI hlt;clear hx hsu hil hlt hi hbest;replace p0 := eq_true p0;replace p1 := eq_true p1;go_wp2_with fail
      obtain ⟨U, hU⟩ : ∃ U, U = wr.alloc (.cells #[.int .i64 x.f0, .int .i64 x.f1] 44) := ⟨_, rfl⟩;obtain ⟨F, hF⟩ : ∃ F, F = wr.heap.size := ⟨_, rfl⟩;obtain ⟨B, hB⟩ : ∃ B, B = w.heap.size + 1 := ⟨_, rfl⟩;have hf : U.heap[F]? = some (.cells #[.int .i64 x.f0, .int .i64 x.f1] 44 (0, 0)) := by rw [hU, hF]; exact heap_alloc_new _ _
      have hp : PickW w U a b := by rw [hU]; exact HW.out.below ((Below.refl _ _).alloc (Nat.le_refl _) _)
      have z0 : U.cell? ⟨F, 0, none⟩ = some (.int .i64 x.f0) := (blk_cell hf 0).trans rfl;have z1 : U.cell? ⟨F, 1, none⟩ = some (.int .i64 x.f1) := (blk_cell hf 1).trans rfl;have y0 : U.cell? ⟨B, 0, none⟩ = some (.int .i64 a) := by rw [hB]; exact (blk_cell hp.c 0).trans rfl
      have y1 : U.cell? ⟨B, 1, none⟩ = some (.int .i64 b) := by rw [hB]; exact (blk_cell hp.c 1).trans rfl
      have HP := hI hp;have HF := hI hf;have HBB := hI hB;rw [← hU, ← hF, ← hB];clear hU hF hB hf hp x0 x1 HW;cases is with
      | false =>
        refine wp_mono (Q := Exit.then ?_ (fun _ _ _ => False)) ?_ ?_;rotate_left 2
        · intro e a w h
          cases e with
          | normal => exact h
          | _ => exact (show False from h).elim
        refine bg_ 11 (fun u => u.cell? ⟨F, 0, none⟩ = some (.int .i64 x.f0) ∧ u.cell? ⟨F, 1, none⟩ = some (.int .i64 x.f1) ∧ u.cell? ⟨B, 0, none⟩ = some (.int .i64 a) ∧ u.cell? ⟨B, 1, none⟩ = some (.int .i64 b)) ⟨z0, z1, y0, y1⟩ (fun hHeld => ?_);refine pS_ 0 16 ?_;refine pS_ 1 17 ?_;refine pS_ 2 18 ?_;refine pU_ 3 19 ?_;refine pU_ 4 20 ?_;refine pU_ 6 22 ?_;refine pU_ 7 23 ?_;refine oS_ 5 21 (fun K hK => ?_);refine off_ (by rfl) ?_;refine hK.out _ _ hHeld (fun hHeld => ?_);clear hK K;refine nS_ ?_;refine oS_ 8 24 (fun K hK => ?_);refine off_ (by rfl) ?_;refine hK.out _ _ hHeld (fun hHeld => ?_);clear hK K;refine nS_ ?_;refine pU_ 9 25 ?_;refine pS_ 10 26 ?_;refine dS_ ?_;obtain ⟨V, hV⟩ : ∃ V, V = U.drew := ⟨_, rfl⟩;have HV := hI (show Below U.heap.size U V by rw [hV]; exact below_drew1 (Below.refl _ _));rw [← hV] at hHeld ⊢;clear hV z0 z1 y0 y1;have hpv : PickW w V a b := HP.out.below HV.out;have hfv : V.heap[F]? = some (.cells #[.int .i64 x.f0, .int .i64 x.f1] 44 (0, 0)) := (HV.out.block F (blk_lt HF.out)).trans HF.out;have hbv : V.heap[B]? = some (.cells #[.int .i64 a, .int .i64 b] 44 (0, 0)) := by rw [HBB.out]; exact hpv.c
        have f0 := Lib.frozen_of_heap hbv 0;have f1 := Lib.frozen_of_heap hbv 1;obtain ⟨t0, t1, t2, t3⟩ := hHeld
        have HQ := hI (show PickW w ((V.setCell ⟨B, 0, none⟩ (.int .i64 x.f0)).setCell ⟨B, 1, none⟩ (.int .i64 x.f1)) x.f0 x.f1 from
          ⟨(hpv.h.setCell (by rw [HBB.out]; exact Nat.le_succ _) _).setCell (by rw [HBB.out]; exact Nat.le_succ _) _,
           ((Below.heap_setCell _ _ _ _ (by rw [HBB.out]; exact Nat.ne_of_lt (Nat.lt_succ_self _))).trans (Below.heap_setCell _ _ _ _ (by rw [HBB.out]; exact Nat.ne_of_lt (Nat.lt_succ_self _)))).trans hpv.r,
           by
            have := blk_set (blk_set hbv 0 (.int .i64 x.f0)) 1 (.int .i64 x.f1);rw [← HBB.out];simpa using this⟩)
        clear hpv hfv hbv HV;go_wp2;have hBq := HBB.out;subst hBq;go_roundw
        case rel => exact ⟨i + 1, x.f0, x.f1, true, HLT.out, by rw [HSU.out]; unfold pickS; rw [if_pos (.inl rfl)], by rw [hwi], rfl, ⟨HQ.out⟩⟩
        case measure => rw [hwi]; exact less_step (by decide) HLT.out
      | true =>
        by_cases hab : a < x.f0
        case' pos => have hd := decide_eq_true hab
        case' neg => have hd := decide_eq_false hab
        all_goals have HAB := hI hab
        all_goals clear hab
        case pos =>
          refine wp_mono (Q := Exit.then ?_ (fun _ _ _ => False)) ?_ ?_;rotate_left 2
          · intro e a w h
            cases e with
            | normal => exact h
            | _ => exact (show False from h).elim
          refine bg_ 11 (fun u => u.cell? ⟨F, 0, none⟩ = some (.int .i64 x.f0) ∧ u.cell? ⟨F, 1, none⟩ = some (.int .i64 x.f1) ∧ u.cell? ⟨B, 0, none⟩ = some (.int .i64 a) ∧ u.cell? ⟨B, 1, none⟩ = some (.int .i64 b)) ⟨z0, z1, y0, y1⟩ (fun hHeld => ?_);refine pS_ 0 16 ?_;refine pS_ 1 17 ?_;refine pS_ 2 18 ?_;refine pS_ 3 19 ?_;refine pS_ 6 22 ?_;refine tS_ 4 20 hHeld ?_;refine tS_ 7 23 hHeld ?_;refine oS_ 5 21 (fun K hK => ?_);refine call_ 25 #[.agg #[.int .i64 x.f0, .int .i64 x.f1]] (by rfl) rfl (by go_simp <;> rfl) ?_;refine (cmap_Get_1.calls x.f0 x.f1 _ _ rfl).mono ?_;rintro e W5 ⟨rfl, hb5⟩;refine ⟨_, rfl, ?_⟩;have hK2 := hK.out;clear hK;have hk_ := keep4 hb5 hHeld.1 hHeld.2.1 hHeld.2.2.1 hHeld.2.2.2;refine hK2 _ _ hk_ (fun hHeld => ?_);clear hK2;refine nS_ ?_;refine oS_ 8 24 (fun K hK => ?_);refine call_ 25 #[.agg #[.int .i64 a, .int .i64 b]] (by rfl) rfl (by go_simp <;> rfl) ?_;refine (cmap_Get_1.calls a b _ _ rfl).mono ?_;rintro e W8 ⟨rfl, hb8⟩;refine ⟨_, rfl, ?_⟩;have hK2 := hK.out;clear hK;have hk_ := keep4 hb8 hHeld.1 hHeld.2.1 hHeld.2.2.1 hHeld.2.2.2;refine hK2 _ _ hk_ (fun hHeld => ?_);clear hK2;refine nS_ ?_;refine pS_ 9 25 ?_;refine pS_ 10 26 ?_;refine dS_ ?_;have HV := hI (show Below U.heap.size U W8 from below_then (below_then (below_drew1 (Below.refl _ _)) (Nat.le_refl _) hb5) (below_then (below_drew1 (Below.refl _ _)) (Nat.le_refl _) hb5 : Below U.heap.size U W5).size hb8);obtain ⟨V, hV⟩ : ∃ V, V = W8 := ⟨_, rfl⟩;rw [← hV] at HV hHeld ⊢;clear hV hk_ hb5 hb8 z0 z1 y0 y1 hd;have hpv : PickW w V a b := HP.out.below HV.out;have hfv : V.heap[F]? = some (.cells #[.int .i64 x.f0, .int .i64 x.f1] 44 (0, 0)) := (HV.out.block F (blk_lt HF.out)).trans HF.out;have hbv : V.heap[B]? = some (.cells #[.int .i64 a, .int .i64 b] 44 (0, 0)) := by rw [HBB.out]; exact hpv.c
          have f0 := Lib.frozen_of_heap hbv 0;have f1 := Lib.frozen_of_heap hbv 1;obtain ⟨t0, t1, t2, t3⟩ := hHeld
          have HQ := hI (show PickW w ((V.setCell ⟨B, 0, none⟩ (.int .i64 x.f0)).setCell ⟨B, 1, none⟩ (.int .i64 x.f1)) x.f0 x.f1 from
            ⟨(hpv.h.setCell (by rw [HBB.out]; exact Nat.le_succ _) _).setCell (by rw [HBB.out]; exact Nat.le_succ _) _,
             ((Below.heap_setCell _ _ _ _ (by rw [HBB.out]; exact Nat.ne_of_lt (Nat.lt_succ_self _))).trans (Below.heap_setCell _ _ _ _ (by rw [HBB.out]; exact Nat.ne_of_lt (Nat.lt_succ_self _)))).trans hpv.r,
             by
              have := blk_set (blk_set hbv 0 (.int .i64 x.f0)) 1 (.int .i64 x.f1);rw [← HBB.out];simpa using this⟩)
          clear hpv hfv hbv HV;go_wp2;have hBq := HBB.out;subst hBq;go_roundw
          case rel => exact ⟨i + 1, x.f0, x.f1, true, HLT.out, by rw [HSU.out]; unfold pickS; rw [if_pos (.inr HAB.out)], by rw [hwi], rfl, ⟨HQ.out⟩⟩
          case measure => rw [hwi]; exact less_step (by decide) HLT.out
        case neg =>
          refine wp_mono (Q := Exit.then ?_ (fun _ _ _ => False)) ?_ ?_;rotate_left 2
          · intro e a w h
            cases e with
            | normal => exact h
            | _ => exact (show False from h).elim
          refine bg_ 11 (fun u => u.cell? ⟨F, 0, none⟩ = some (.int .i64 x.f0) ∧ u.cell? ⟨F, 1, none⟩ = some (.int .i64 x.f1) ∧ u.cell? ⟨B, 0, none⟩ = some (.int .i64 a) ∧ u.cell? ⟨B, 1, none⟩ = some (.int .i64 b)) ⟨z0, z1, y0, y1⟩ (fun hHeld => ?_);refine pS_ 0 16 ?_;refine pS_ 1 17 ?_;refine pS_ 2 18 ?_;refine pS_ 3 19 ?_;refine pS_ 6 22 ?_;refine tS_ 4 20 hHeld ?_;refine tS_ 7 23 hHeld ?_;refine oS_ 5 21 (fun K hK => ?_);refine call_ 25 #[.agg #[.int .i64 x.f0, .int .i64 x.f1]] (by rfl) rfl (by go_simp <;> rfl) ?_;refine (cmap_Get_1.calls x.f0 x.f1 _ _ rfl).mono ?_;rintro e W5 ⟨rfl, hb5⟩;refine ⟨_, rfl, ?_⟩;have hK2 := hK.out;clear hK;have hk_ := keep4 hb5 hHeld.1 hHeld.2.1 hHeld.2.2.1 hHeld.2.2.2;refine hK2 _ _ hk_ (fun hHeld => ?_);clear hK2;refine nS_ ?_;refine oS_ 8 24 (fun K hK => ?_);refine call_ 25 #[.agg #[.int .i64 a, .int .i64 b]] (by rfl) rfl (by go_simp <;> rfl) ?_;refine (cmap_Get_1.calls a b _ _ rfl).mono ?_;rintro e W8 ⟨rfl, hb8⟩;refine ⟨_, rfl, ?_⟩;have hK2 := hK.out;clear hK;have hk_ := keep4 hb8 hHeld.1 hHeld.2.1 hHeld.2.2.1 hHeld.2.2.2;refine hK2 _ _ hk_ (fun hHeld => ?_);clear hK2;refine nS_ ?_;refine pS_ 9 25 ?_;refine pS_ 10 26 ?_;refine dS_ ?_;have HV := hI (show Below U.heap.size U W8 from below_then (below_then (below_drew1 (Below.refl _ _)) (Nat.le_refl _) hb5) (below_then (below_drew1 (Below.refl _ _)) (Nat.le_refl _) hb5 : Below U.heap.size U W5).size hb8);obtain ⟨V, hV⟩ : ∃ V, V = W8 := ⟨_, rfl⟩;rw [← hV] at HV hHeld ⊢;clear hV hk_ hb5 hb8 z0 z1 y0 y1 hd;have HQ := hI (HP.out.below HV.out);clear HV;go_wp2;have hBq := HBB.out;subst hBq;go_roundw
          case rel => exact ⟨.bool true, .pointer (some ⟨F, 0, none⟩), .int .i64 ((i : Int) + 1), ⟨i + 1, HLT.out, a, b, .inr ⟨by rw [HSU.out]; unfold pickS; rw [if_neg (by rintro (h | h); exact Bool.noConfusion h; exact absurd h (Int.not_lt.2 HAB.out))], by simp, rfl, ⟨HQ.out⟩⟩⟩, rfl, rfl, rfl, rfl⟩
          case measure => rw [show ((i : Int) + 1) = ((i + 1 : Nat) : Int) by simp]; exact less_step (by decide) HLT.out
    have hie : i = n := by omega
    have d3 : decide ((i : Int) < (n : Int)) = false := decide_eq_false (by omega);have hfull : l.take i = l := List.take_of_length_le (by have := HN.out; omega);rw [hfull] at hbest;have HBE := hI hbest;have hc := HW.out.c;have hr := HW.out.r;have y0 : wr.cell? ⟨w.heap.size + 1, 0, none⟩ = some (.int .i64 a) := (blk_cell hc 0).trans rfl;have y1 : wr.cell? ⟨w.heap.size + 1, 1, none⟩ = some (.int .i64 b) := (blk_cell hc 1).trans rfl;have f0 := Lib.frozen_of_heap hr 0;have f1 := Lib.frozen_of_heap hr 1;have r0 : wr.cell? ⟨w.heap.size, 0, none⟩ = some (.int .i64 0) := (blk_cell hr 0).trans rfl;have r1 : wr.cell? ⟨w.heap.size, 1, none⟩ = some (.int .i64 0) := (blk_cell hr 1).trans rfl
    have HE := hI (show ((wr.setCell ⟨w.heap.size, 0, none⟩ (.int .i64 a)).setCell ⟨w.heap.size, 1, none⟩ (.int .i64 b)).heap[w.heap.size]? = some (.cells #[.int .i64 a, .int .i64 b] 44 (0, 0)) by
      have := blk_set (blk_set hr 0 (.int .i64 a)) 1 (.int .i64 b);simpa using this)
    have HBL := hI ((HW.out.h.setCell (p := ⟨w.heap.size, 0, none⟩) (Nat.le_refl _) (.int .i64 a)).setCell (p := ⟨w.heap.size, 1, none⟩) (Nat.le_refl _) (.int .i64 b));clear hfull hbest hc hr HW hlt hi;go_wp2;refine bodyPost_ret (results_cell_tmp_row rfl _ _ w.heap.size _ (run_loadVar_row _ w.heap.size _ 44 _ _ _ HE.out hu rfl (by kernel_rfl)) rfl) rfl ?_;rw [HBE.out];exact ⟨rfl, HBL.out⟩
attribute [local go_sem] max2_int min2_int max_two min_two max_three min_three max_four min_four
theorem eqA47 (d : Nat) (w : World) (x0 y0 : Int) (x1 y1 : Int) :
  (Op.equalIn (d + 2) 47 (.agg #[.int .i64 x0, .int .i64 x1]) (.agg #[.int .i64 y0, .int .i64 y1])).run Tryz.prog w = .ok (x0 == y0 && (x1 == y1)) w := by
 refine eqA_of Tryz.underlying47 (by kernel_rfl) ?_;refine eqf_cons (by rfl) (by go_simp; rfl) (by go_simp; rfl) (by go_simp) ?_;exact eqf_last (by rfl) (by go_simp; rfl) (by go_simp; rfl) (by go_simp)
attribute [local go_sem high] eqA47
def cmap_kind.l0 : Nat → List (S47) → Int → Int → Int → Int → Option (Int)
 | 0, _, _, _, _, _ => none
 | k + 1, x0, x7, x8, x221000, x221001 => if x8 < x7 then (if 0 ≤ x8 then (if x8 < (x0.length : Int) then (if (x221000 == ((rd_T47 x0 x8).f0) && (x221001 == ((rd_T47 x0 x8).f1))) = true then (some x8) else (cmap_kind.l0 k x0 x7 (wrap64 (x8 + 1)) x221000 x221001)) else (none)) else (none)) else (some (-1))
def cmap_kind.f (k : Nat) (l0 : List (S47)) (a1_0 : Int) (a1_1 : Int) : Option (Int) := cmap_kind.l0 k l0 (l0.length : Int) 0 a1_0 a1_1
theorem cmap_kind.calls (k : Nat) (A0 : Option Addr) (c0 : Nat) (l0 : List (S47)) (a1_0 : Int) (a1_1 : Int) (r : Int) (w : World) (hr0 : Kd.C k47 w A0 l0.length l0) (hc0 : l0.length ≤ c0) (h : cmap_kind.f k l0 a1_0 a1_1 = some r) :
  Calls Tryz.prog 37 #[.slice A0 l0.length c0, .agg #[.int .i64 a1_0, .int .i64 a1_1]] w fun e w' => e = .returned (.int .i64 r) ∧ Below w.heap.size w w' := by
 have hu47 := Tryz.underlying47;have HR0 := aK hr0;have HC0 := aK hc0;clear hr0 hc0;have HB := aK (Below.refl w.heap.size w);have H : (cmap_kind.l0 k l0 (l0.length : Int) 0 a1_0 a1_1) = some r := h;clear h;have H' := aK H;clear H;go_enter Tryz.func37, Tryz.ntmps37;go_wp2_with (first | ((with_reducible refine gate_dst (N := 3) rfl ?_); refine box_event ?hg (N := 3) ?hd (cs := #[.int .i64 a1_0, .int .i64 a1_1]) (t := 47) ?hr ?_; (case hd => rfl); (case hg => rfl); (case hr => exact hA); intro gb220 hg w3 hbox hb; have BK220 := aK (hbox); have GW220 := aK ((by rw [hg]; exact (below_size bA) : w.heap.size ≤ gb220)); have GE220 := aK ((by rw [hg]; exact (below_size bA) : w.heap.size ≤ gb220)); replace HB := aK (below_step bA hb); clear hb hbox hg))
 go_loopg [8] k (fun kq v8 w' => ∃ (x8_1 : Int), v8 = .int .i64 x8_1 ∧ Aside0 (cmap_kind.l0 kq l0 (l0.length : Int) x8_1 a1_0 a1_1 = some r) ∧ Aside0 (kq ≤ k) ∧ Aside0 (w'.heap[gb220]? = some (.cells #[.int .i64 a1_0, .int .i64 a1_1] 47 (0, 0))) ∧ Aside0 (Below w.heap.size w w'))
 case atStart => exact ⟨(0), gA, H', ⟨Nat.le_refl _⟩, ⟨by (with_reducible repeat (first | refine blk_drewN ?_ _ | refine blk_drew ?_ | refine blk_alloc ?_ _)); exact BK220.out⟩, ⟨bG GE220.out⟩⟩
 case round =>
  clear H';obtain ⟨x8_1, rfl, HA, HK1, BK220, HB⟩ := hrel;cases gk with
  | zero => exact absurd HA.out (by simp [cmap_kind.l0])
  | succ k1 =>
   have H := HA.out;clear HA;simp only [cmap_kind.l0] at H;replace H := qL H;rcases H with ⟨c4b0, H⟩ | ⟨c4b0, H⟩
   ·
    replace H := nL H;obtain ⟨c5b0, H⟩ := H;replace H := nL H;obtain ⟨c6b0, H⟩ := H;replace H := qC H;rcases H with ⟨c7, H⟩ | ⟨c7, H⟩
    ·
     have c7b0 : (a1_0 == ((rd_T47 l0 x8_1).f0) && (a1_1 == ((rd_T47 l0 x8_1).f1))) = true := c7
     (try (have c7b1 : decide (a1_0 = ((rd_T47 l0 x8_1).f0) && (a1_1 == ((rd_T47 l0 x8_1).f1))) = true := by simpa using c7))
     (try (have c7b2 : (a1_0 == ((rd_T47 l0 x8_1).f0) && (a1_1 == ((rd_T47 l0 x8_1).f1))) = true := by simpa using c7))
     clear c7;obtain rfl := Option.some.inj H;obtain ⟨hcz8_0, hcz8_1, hfz8_0, hfz8_1⟩ := blk2 BK220.out;obtain ⟨p221, q221, ad221, e221, hx221_0, hx221_1⟩ := aT (at_T47 HR0.out x8_1);cases e221
     replace hx221_0 := kM HB.out hx221_0;replace hx221_1 := kM HB.out hx221_1;go_wp2;repeat (go_quiet (fail); try go_wp2)
     go_ret;exact ⟨eA, bG GE220.out⟩
    have c7b0 : (a1_0 == ((rd_T47 l0 x8_1).f0) && (a1_1 == ((rd_T47 l0 x8_1).f1))) = false := by simpa using c7
    (try (have c7b1 : decide (a1_0 = ((rd_T47 l0 x8_1).f0) && (a1_1 == ((rd_T47 l0 x8_1).f1))) = false := by simpa using c7))
    (try (have c7b2 : (a1_0 == ((rd_T47 l0 x8_1).f0) && (a1_1 == ((rd_T47 l0 x8_1).f1))) = false := by simpa using c7))
    (try (have c7b3 : ¬ (a1_0 = ((rd_T47 l0 x8_1).f0) && (a1_1 == ((rd_T47 l0 x8_1).f1))) := by simpa using c7))
    clear c7;have H' := aK H;clear H;obtain ⟨hcz9_0, hcz9_1, hfz9_0, hfz9_1⟩ := blk2 BK220.out;obtain ⟨p221, q221, ad221, e221, hx221_0, hx221_1⟩ := aT (at_T47 HR0.out x8_1);cases e221
    replace hx221_0 := kM HB.out hx221_0;replace hx221_1 := kM HB.out hx221_1;go_wp2;repeat (go_quiet (fail); try go_wp2)
    go_roundg k1
    case measure => exact oK
    case rel => exact ⟨(wrap64 (x8_1 + 1)), gA, H', ⟨oK⟩, ⟨by (with_reducible repeat (first | refine blk_drewN ?_ _ | refine blk_drew ?_ | refine blk_alloc ?_ _)); exact BK220.out⟩, ⟨bG GE220.out⟩⟩
   obtain rfl := Option.some.inj H;go_wp2;go_ret;exact ⟨eA, bG GE220.out⟩
end Go.Proofs.YtejdflndgnpkcaaGreat.P
end
section
namespace Go.Proofs.YtejdflndgnpkcaaGreat.P
open Go.RowKit PW PL PM
attribute [local go_sem] max2_int min2_int max_two min_two max_three min_three max_four min_four
def cmap_kinds.f  : Option ((List (S47))) := some (([(⟨1, 0⟩ : S47), (⟨0, 0⟩ : S47), (⟨0, 1⟩ : S47), (⟨0, 2⟩ : S47), (⟨0, 3⟩ : S47), (⟨3, 1⟩ : S47), (⟨0, 4⟩ : S47), (⟨0, 6⟩ : S47), (⟨3, 10⟩ : S47)] : List (S47)))
theorem cmap_kinds.calls  (r : List (S47)) (w : World) (h : cmap_kinds.f  = some r) :
  Calls Tryz.prog 38 #[] w fun e w' => ∃ v0_ : Value, e = .returned (v0_) ∧ Kd.R k47 47 w' w.heap.size (fun _ => True) v0_ r ∧ Below w.heap.size w w' := by
 have hu47 := Tryz.underlying47;have HB := aK (Below.refl w.heap.size w);have H : (some (([(⟨1, 0⟩ : S47), (⟨0, 0⟩ : S47), (⟨0, 1⟩ : S47), (⟨0, 2⟩ : S47), (⟨0, 3⟩ : S47), (⟨3, 1⟩ : S47), (⟨0, 4⟩ : S47), (⟨0, 6⟩ : S47), (⟨3, 10⟩ : S47)] : List (S47)))) = some r := h;clear h;obtain ⟨y222, hy222⟩ : ∃ y_ : List (S47), y_ = (([(⟨1, 0⟩ : S47), (⟨0, 0⟩ : S47), (⟨0, 1⟩ : S47), (⟨0, 2⟩ : S47), (⟨0, 3⟩ : S47), (⟨3, 1⟩ : S47), (⟨0, 4⟩ : S47), (⟨0, 6⟩ : S47), (⟨3, 10⟩ : S47)] : List (S47))) := ⟨_, rfl⟩;replace H : (some y222) = some r := by rw [hy222]; exact H
 have Ny222 := aK hy222;clear hy222;obtain rfl := Option.some.inj H;go_enter Tryz.func38, Tryz.ntmps38;go_wp2_with (first | ((with_reducible refine gate_dst (N := 10) rfl ?_); refine Kd.R_lit k47 _ 47 ?hg (N := 10) ?hd (xs := ([(⟨1, 0⟩ : S47), (⟨0, 0⟩ : S47), (⟨0, 1⟩ : S47), (⟨0, 2⟩ : S47), (⟨0, 3⟩ : S47), (⟨3, 1⟩ : S47), (⟨0, 4⟩ : S47), (⟨0, 6⟩ : S47), (⟨3, 10⟩ : S47)] : List (S47))) (inner := [.int .i64 1, .int .i64 0, .int .i64 0, .int .i64 0, .int .i64 0, .int .i64 1, .int .i64 0, .int .i64 2, .int .i64 0, .int .i64 3, .int .i64 3, .int .i64 1, .int .i64 0, .int .i64 4, .int .i64 0, .int .i64 6, .int .i64 3, .int .i64 10]) (ok := fun _ => True) (okp := fun _ => True) ?hr ?hp (fun _ hk => hk) trivial (Below.refl _ _) (Nat.le_refl _) (by simp) ?_; (case hd => rfl); (case hg => rfl); (case hr => exact hA); (case hp => exact (Reps.c2 (show Kd.M k47 _ _ _ (⟨1, 0⟩ : S47) [.int .i64 1, .int .i64 0] from (k47_mkM _ _ _ (⟨1, 0⟩ : S47) )) (Reps.c2 (show Kd.M k47 _ _ _ (⟨0, 0⟩ : S47) [.int .i64 0, .int .i64 0] from (k47_mkM _ _ _ (⟨0, 0⟩ : S47) )) (Reps.c2 (show Kd.M k47 _ _ _ (⟨0, 1⟩ : S47) [.int .i64 0, .int .i64 1] from (k47_mkM _ _ _ (⟨0, 1⟩ : S47) )) (Reps.c2 (show Kd.M k47 _ _ _ (⟨0, 2⟩ : S47) [.int .i64 0, .int .i64 2] from (k47_mkM _ _ _ (⟨0, 2⟩ : S47) )) (Reps.c2 (show Kd.M k47 _ _ _ (⟨0, 3⟩ : S47) [.int .i64 0, .int .i64 3] from (k47_mkM _ _ _ (⟨0, 3⟩ : S47) )) (Reps.c2 (show Kd.M k47 _ _ _ (⟨3, 1⟩ : S47) [.int .i64 3, .int .i64 1] from (k47_mkM _ _ _ (⟨3, 1⟩ : S47) )) (Reps.c2 (show Kd.M k47 _ _ _ (⟨0, 4⟩ : S47) [.int .i64 0, .int .i64 4] from (k47_mkM _ _ _ (⟨0, 4⟩ : S47) )) (Reps.c2 (show Kd.M k47 _ _ _ (⟨0, 6⟩ : S47) [.int .i64 0, .int .i64 6] from (k47_mkM _ _ _ (⟨0, 6⟩ : S47) )) (Reps.c2 (show Kd.M k47 _ _ _ (⟨3, 10⟩ : S47) [.int .i64 3, .int .i64 10] from (k47_mkM _ _ _ (⟨3, 10⟩ : S47) )) (Reps.none _ _))))))))))); intro v223 w1 ho2 hb hg_ hnew_; clear hg_ hnew_; (first | rw [← Ny222.out] at ho2 | (simp only [Int.reduceToNat] at ho2; rw [← Ny222.out] at ho2)); have HO224 := aK (Kd.R_lower ho2 (below_size bA)); replace HB := aK (below_step bA hb); clear hb ho2))
 go_ret;exact ⟨_, eA, rA HO224.out, bA⟩
def cmap_Best.f (k : Nat) (a0 : Int) (a1 : Int) : Option (Int) := (cmap_kinds.f).bind fun t225 => ((cmap_kind.f k t225 a0 a1).bind fun t228 => (some (wrap64 (t228 + 1))))
theorem cmap_Best.calls (k : Nat) (a0 : Int) (a1 : Int) (r : Int) (w : World) (h : cmap_Best.f k a0 a1 = some r) :
  Calls Tryz.prog 15 #[.int .i64 a0, .int .i64 a1] w fun e w' => e = .returned (.int .i64 r) ∧ Below w.heap.size w w' := by
 have hu47 := Tryz.underlying47;have HB := aK (Below.refl w.heap.size w);have H : ((cmap_kinds.f).bind fun t225 => ((cmap_kind.f k t225 a0 a1).bind fun t228 => (some (wrap64 (t228 + 1))))) = some r := h;clear h;replace H := qS H;obtain ⟨t225, A3, H⟩ := H;replace H := qS H;obtain ⟨t228, A4, H⟩ := H;obtain rfl := Option.some.inj H;go_enter Tryz.func15, Tryz.ntmps15;go_wp2_with (first | ((with_reducible refine gate_callee (f := 38) rfl ?_); refine gL_ 5 Tryz.func38 #[] ?_; (with_reducible refine (cmap_kinds.calls  t225 _ A3.out).mono ?_); rintro e w5 ⟨v226, rfl, ho0, hb⟩; refine ⟨_, rfl, ?_⟩; have HO227 := aK (Kd.R_lower ho0 (below_size bA)); replace HB := aK (below_step bA hb); (try clear hb ho0); obtain ⟨Ao6, co6, eo6⟩ := Kd.R_slice HO227.out; subst eo6) | ((with_reducible refine gate_callee (f := 37) rfl ?_); refine gB_ 9 Tryz.func37 (cmap_kind.calls k _ _ t225 a0 a1 t228 _ ?side1 ?side2 A4.out) ?_; (case side1 => exact cA (Kd.R_reads' HO227.out).2.2); (case side2 => exact (Kd.R_reads' HO227.out).2.1); clear HB; intro w7 hb HB; replace HO227 := aK (Kd.R_below (rA HO227.out) hb); clear hb))
 go_ret;exact ⟨eA, bA⟩
end Go.Proofs.YtejdflndgnpkcaaGreat.P
end
section
namespace Go.Proofs.YtejdflndgnpkcaaGreat.P
open Go.RowKit PW PL PM
def bestP (p q : Int) : Int :=
 if p = 1 ∧ q = 0 then 1 else if p = 0 ∧ q = 0 then 2 else if p = 0 ∧ q = 1 then 3 else if p = 0 ∧ q = 2 then 4 else if p = 0 ∧ q = 3 then 5
 else if p = 3 ∧ q = 1 then 6 else if p = 0 ∧ q = 4 then 7 else if p = 0 ∧ q = 6 then 8 else if p = 3 ∧ q = 10 then 9 else 0
def isFmt (f : Int) : Bool := decide (f = 0 ∨ f = 4 ∨ f = 6 ∨ f = 12 ∨ f = 13)
def entM (s : ByteArray) (i : Nat) : S47 := ⟨bestP (w2 s (4 + 8 * i)) (w2 s (6 + 8 * i)), w4 s (8 + 8 * i)⟩
def mayM (s : ByteArray) (x : S47) : Bool := decide (x.f0 ≠ 0) && (decide (x.f1.toNat + 2 ≤ s.size) && isFmt (w2 s x.f1.toNat))
def entsM (s : ByteArray) (n : Nat) : List S47 := ((List.range n).map (entM s)).filter (mayM s)
def getM (s : ByteArray) : List S61 × Int :=
 if s.size < 4 then ([], 4)
 else if w2 s 0 ≠ 0 then ([], 5)
 else if 64 < w2 s 2 then ([], 7)
 else if (s.size : Int) < 4 + 8 * w2 s 2 then ([], 4)
 else if (bestS (entsM s (w2 s 2).toNat)).2 = false then ([], 6)
 else readM (s.extract (bestS (entsM s (w2 s 2).toNat)).1.f1.toNat s.size)
theorem entsM_succ (s : ByteArray) (n : Nat) : entsM s (n + 1) = entsM s n ++ (if mayM s (entM s n) = true then [entM s n] else []) := by
 unfold entsM;rw [List.range_succ, List.map_append, List.filter_append];congr 1
 cases h : mayM s (entM s n) with
 | true => rw [if_pos rfl]; exact List.filter_cons_of_pos h
 | false => rw [if_neg Bool.false_ne_true]; exact List.filter_cons_of_neg (by rw [h]; exact Bool.false_ne_true)
theorem fmt_not {f : Int} (h : isFmt f = false) (m1 m2 : Nat) : fmtOf f m1 m2 = none := by
 have h := of_decide_eq_false h;unfold fmtOf;rw [if_neg (by omega), if_neg (by omega), if_neg (by omega), if_neg (by omega), if_neg (by omega)]
def ninE : List S47 := [⟨1, 0⟩, ⟨0, 0⟩, ⟨0, 1⟩, ⟨0, 2⟩, ⟨0, 3⟩, ⟨3, 1⟩, ⟨0, 4⟩, ⟨0, 6⟩, ⟨3, 10⟩]
theorem kind_step (k i : Nat) (p q : Int) (hi : i < 9) : cmap_kind.l0 (k + 1) ninE 9 (i : Int) p q = if p = (atK ninE i).f0 ∧ q = (atK ninE i).f1 then some (i : Int) else cmap_kind.l0 k ninE 9 ((i + 1 : Nat) : Int) p q := by
 have hw : wrap64 ((i : Int) + 1) = ((i + 1 : Nat) : Int) := by unfold wrap64; omega
 have hl : (ninE.length : Int) = 9 := rfl;simp only [cmap_kind.l0];rw [if_pos (by omega), if_pos (by omega), if_pos (by rw [hl]; omega), hw, rd_atK];by_cases h : p = (atK ninE i).f0 ∧ q = (atK ninE i).f1
 · rw [if_pos h, if_pos (by rw [Bool.and_eq_true, beq_iff_eq, beq_iff_eq]; exact h)]
 rw [if_neg h, if_neg (by rw [Bool.and_eq_true, beq_iff_eq, beq_iff_eq]; exact h)]
theorem best_told (p q : Int) (k : Nat) (hk : 20 ≤ k) : cmap_Best.f k p q = some (bestP p q) := by
 obtain ⟨k, rfl⟩ : ∃ m, k = m + 10 := ⟨k - 10, by omega⟩;unfold cmap_Best.f cmap_kinds.f;rw [Option.bind_some];show (cmap_kind.l0 (k + 10) ninE 9 ((0 : Nat) : Int) p q).bind _ = _
 rw [kind_step _ 0 p q (by decide), kind_step _ 1 p q (by decide), kind_step _ 2 p q (by decide), kind_step _ 3 p q (by decide), kind_step _ 4 p q (by decide), kind_step _ 5 p q (by decide), kind_step _ 6 p q (by decide), kind_step _ 7 p q (by decide), kind_step _ 8 p q (by decide)]
 have hend : cmap_kind.l0 (k + 1) ninE 9 ((8 + 1 : Nat) : Int) p q = some (-1) := by
  simp only [cmap_kind.l0];rw [if_neg (by decide)]
 rw [hend];unfold bestP;show (if p = 1 ∧ q = 0 then _ else if p = 0 ∧ q = 0 then _ else if p = 0 ∧ q = 1 then _ else if p = 0 ∧ q = 2 then _ else if p = 0 ∧ q = 3 then _ else if p = 3 ∧ q = 1 then _ else if p = 0 ∧ q = 4 then _ else if p = 0 ∧ q = 6 then _ else if p = 3 ∧ q = 10 then _ else _ : Option Int).bind _ = _
 repeat' split
 all_goals decide +kernel
end Go.Proofs.YtejdflndgnpkcaaGreat.P
end
section
namespace Go.Proofs.YtejdflndgnpkcaaGreat.P
open Go.RowKit Go.Shelf PW PL PM
def numR (s : ByteArray) (p j : Nat) : Int := if j % 3 = 0 then w2 s (p + 8 * (j / 3)) else if j % 3 = 1 then w2 s (p + 2 + 8 * (j / 3)) else w4 s (p + 4 + 8 * (j / 3))
theorem numR_next (s : ByteArray) (p j : Nat) : numR s p (j + 3) = numR s (p + 8) j := by
 unfold numR;have h1 : (j + 3) % 3 = j % 3 := by omega
 have h2 : (j + 3) / 3 = j / 3 + 1 := by omega
 have e1 : p + 8 * (j / 3 + 1) = p + 8 + 8 * (j / 3) := by omega
 have e2 : p + 2 + 8 * (j / 3 + 1) = p + 8 + 2 + 8 * (j / 3) := by omega
 have e3 : p + 4 + 8 * (j / 3 + 1) = p + 8 + 4 + 8 * (j / 3) := by omega
 rw [h1, h2, e1, e2, e3]
theorem range_three (f : Nat → Int) (m : Nat) : (List.range (3 * (m + 1))).map f = f 0 :: f 1 :: f 2 :: (List.range (3 * m)).map (fun j => f (j + 3)) := by
 have e : 3 * (m + 1) = 3 * m + 1 + 1 + 1 := by omega
 rw [e, List.range_succ_eq_map, List.map_cons, List.map_map, List.range_succ_eq_map, List.map_cons, List.map_map, List.range_succ_eq_map, List.map_cons, List.map_map];rfl
theorem takes_rec (s : ByteArray) : ∀ (m p : Nat), p + 8 * m ≤ s.size → takes (s.extract p s.size) (repN [2, 2, 4] m) = some ((List.range (3 * m)).map (numR s p))
 | 0, p, _ => rfl
 | m + 1, p, h => by
  have a2 : (2 : Int).natAbs = 2 := rfl;have a4 : (4 : Int).natAbs = 4 := rfl;have sz : ∀ p, (s.extract p s.size).size = s.size - p := fun p => by simp
  have ih := takes_rec s m (p + 8) (by omega);have t3 : takes (s.extract (p + 4) s.size) (4 :: repN [2, 2, 4] m) = some (w4 s (p + 4) :: (List.range (3 * m)).map (numR s (p + 8))) := take_of (by rw [a4, sz]; omega) (by rw [a4, ext_ext s (p + 4) 4 (by omega)]; exact ih);have t2 : takes (s.extract (p + 2) s.size) (2 :: 4 :: repN [2, 2, 4] m) = some (w2 s (p + 2) :: w4 s (p + 4) :: (List.range (3 * m)).map (numR s (p + 8))) := take_of (by rw [a2, sz]; omega) (by rw [a2, ext_ext s (p + 2) 2 (by omega)]; exact t3);have t1 : takes (s.extract p s.size) (2 :: 2 :: 4 :: repN [2, 2, 4] m) = some (w2 s p :: w2 s (p + 2) :: w4 s (p + 4) :: (List.range (3 * m)).map (numR s (p + 8))) := take_of (by rw [a2, sz]; omega) (by rw [a2, ext_ext s p 2 (by omega)]; exact t2);rw [range_three];refine Eq.trans t1 ?_;congr 1
  have f : (fun j => numR s p (j + 3)) = numR s (p + 8) := funext (numR_next s p);rw [f];rfl
theorem takes_sum : ∀ (l : List Int) (t : ByteArray) (r : List Int), takes t l = some r → sumN l ≤ t.size
 | [], t, r, _ => Nat.zero_le _
 | s :: l, t, r, h => by
  simp only [takes] at h;split at h
  ·
   rename_i hs
   cases hq : takes (t.extract s.natAbs t.size) l with
   | none => rw [hq] at h; simp at h
   | some q =>
    have ih := takes_sum l _ q hq;have h2 : (t.extract s.natAbs t.size).size = t.size - s.natAbs := by simp
    have h3 : sumN (s :: l) = s.natAbs + sumN l := by simp [sumN]
    omega
  simp at h
theorem get_recs (s : ByteArray) (m : Nat) (h4 : 4 ≤ s.size) : getN s 4 (repN [2, 2, 4] m) = if 4 + 8 * m ≤ s.size then ((List.range (3 * m)).map (numR s 4), 0) else ([], 4) := by
  unfold getN;have e4 : (4 : Int).toNat = 4 := rfl
  rw [if_neg (by rintro (h | h)
                 · exact absurd h (by decide)
                 rw [areSizes_rep [2, 2, 4] (by decide)] at h; exact absurd h (by decide)), if_neg (by omega), e4]
  by_cases h : 4 + 8 * m ≤ s.size
  · rw [if_pos h, takes_rec s m 4 h]
  rw [if_neg h];cases hq : takes (s.extract 4 s.size) (repN [2, 2, 4] m) with
  | none => rfl
  | some r =>
    exfalso
    have h1 := takes_sum _ _ _ hq;have h2 : (s.extract 4 s.size).size = s.size - 4 := by simp
    have h3 : sumN (repN [2, 2, 4] m) = 8 * m := by rw [sumN_rep]; rfl
    omega
def entX (X : List Int) (i : Nat) : S47 := ⟨bestP (rd X ((3 * i : Nat) : Int)) (rd X ((3 * i + 1 : Nat) : Int)), rd X ((3 * i + 2 : Nat) : Int)⟩
theorem recs_rd (s : ByteArray) (m : Nat) (X : List Int) (hX : X = (List.range (3 * m)).map (numR s 4)) (j : Nat) (h : j < 3 * m) : rd X (j : Int) = numR s 4 j := by
 rw [hX]; unfold rd;rw [Int.toNat_natCast, List.getD_eq_getElem?_getD, List.getElem?_map, List.getElem?_range h]; rfl
theorem recs_told (s : ByteArray) (m : Nat) (X : List Int) (hX : X = (List.range (3 * m)).map (numR s 4)) : (List.finRange m).map (fun x => entX X x.1) = (List.range m).map (entM s) := by
 apply List.ext_getElem
 · simp
 intro i h1 h2;have hi : i < m := by simpa using h1
 simp only [List.getElem_map, List.getElem_finRange, List.getElem_range];unfold entX entM;simp only [Fin.val_cast];rw [recs_rd s m X hX (3 * i) (by omega), recs_rd s m X hX (3 * i + 1) (by omega), recs_rd s m X hX (3 * i + 2) (by omega)];unfold numR;have d0 : 3 * i / 3 = i := by omega
 have d1 : (3 * i + 1) / 3 = i := by omega
 have d2 : (3 * i + 2) / 3 = i := by omega
 rw [if_pos (by omega), if_neg (by omega), if_pos (by omega), if_neg (by omega), if_neg (by omega), d0, d1, d2]
theorem recs_bd (s : ByteArray) (p j : Nat) : 0 ≤ numR s p j ∧ numR s p j ≤ 4294967295 := by
 unfold numR;split
 · have := w2_bd s (p + 8 * (j / 3)); omega
 split
 · have := w2_bd s (p + 2 + 8 * (j / 3)); omega
 exact w4_bd s _
theorem infoE : (Tryz.prog.info? 44).map (fun i => (i.zero, i.size, i.bytes)) = some (some (.agg #[(.int .i64 0), (.int .i64 0)]), 2, 16) := by kernel_rfl
structure RowM (w : World) (B : Nat) (ks : List Nat) (w3 : World) (W : World) (v : Value) (xs : List S47) : Prop where
 c : W.cell? ⟨B, 0, none⟩ = some v
 z : W.frozen? ⟨B, 0, none⟩ = false
 r : Kd.R k47 44 W w.heap.size (fun k => w3.heap.size ≤ k) v xs
 hB : Below w.heap.size w W
 hS : w3.heap.size ≤ W.heap.size
 hK : KeepsB ks w3 W
namespace RowM
variable {w w3 W U : World} {B : Nat} {ks : List Nat} {v v1 : Value} {xs ys : List S47}
theorem own_cells (h : RowM w B ks w3 W v xs) (k : Nat) (hk : v.ownBlock = some k) : w3.heap.size ≤ k ∧ k < W.heap.size ∧ ∃ cells q, W.heap[k]? = some (.cells cells q (0, 0)) := by
 have hb := (Kd.R_bound h.r).1 k hk;obtain ⟨h1, h2, h3, q, hq, cells, hc⟩ := hb;exact ⟨h1, h3, cells, q, hc⟩
theorem kept (h : RowM w B ks w3 W v xs) (hwB : w.heap.size ≤ B) (hB3 : B < w3.heap.size) (hks : ∀ k ∈ ks, k < w3.heap.size) {row : Option Nat} (hg : W.grownBy U row) (hr : ∀ r, row = some r → w3.heap.size ≤ r ∧ ∃ o : Obj, W.heap[r]? = some o ∧ o.isCells = false) : RowM w B ks w3 U v xs := by
 have hS := h.hS;have eB : U.heap[B]? = W.heap[B]? := hg.block B (by omega) (fun e => by have := (hr B e.symm).1; omega);refine ⟨(cell_of eB).trans h.c, (frozen_of eB).trans h.z, ?_, h.hB.grown hg h.hB.size (fun k e => by have := (hr k e).1; omega), Nat.le_trans h.hS hg.size, fun k hk => ?_⟩
 ·
  refine Kd.R_mono (Kd.R_grown (Kd.R_bound h.r) hg (fun k hk e => ?_)) (fun k hk => hk.1);obtain ⟨_, _, _, q, _, cells, hc⟩ := hk;obtain ⟨_, o, ho, hn⟩ := hr k e.symm;rw [hc] at ho;injection ho with ho
  subst ho;exact absurd hn (by simp [Obj.isCells])
 have := hks k hk;exact (hg.block k (by omega) (fun e => by have := (hr k e.symm).1; omega)).trans (h.hK k hk)
theorem below (h : RowM w B ks w3 W v xs) (hks : ∀ k ∈ ks, k < w3.heap.size) (hb : Below W.heap.size W U) : RowM w B ks w3 U v xs := by
 have hB := World.block_lt_of_cell? _ _ h.c;dsimp only at hB
 exact ⟨(hb.cell hB).trans h.c, (frozen_of (hb.block B hB)).trans h.z, Kd.R_below h.r hb, h.hB.trans (hb.mono h.hB.size), Nat.le_trans h.hS hb.size, fun k hk => (hb.block k (Nat.lt_of_lt_of_le (hks k hk) h.hS)).trans (h.hK k hk)⟩
theorem grew (h : RowM w B ks w3 W v xs) (hwB : w.heap.size ≤ B) (hB3 : B < w3.heap.size) (hks : ∀ k ∈ ks, k < w3.heap.size) (hBk : B ∉ ks) (hr : Kd.R k47 44 U w.heap.size (fun k => w3.heap.size ≤ k) v1 ys) (hb : Below w.heap.size w U) (hg : W.grownBy U v.ownBlock) :
  U.cell? ⟨B, 0, none⟩ = some v ∧ U.frozen? ⟨B, 0, none⟩ = false ∧ RowM w B ks w3 (U.setCell ⟨B, 0, none⟩ v1) v1 ys ∧ KeepsB ks W (U.setCell ⟨B, 0, none⟩ v1) ∧
   (∀ (k : Nat) (o : Obj), W.heap[k]? = some o → o.isCells = false → k ≠ B → (U.setCell ⟨B, 0, none⟩ v1).heap[k]? = some o) := by
 have hS := h.hS;have ne : ∀ k, k < w3.heap.size → some k ≠ v.ownBlock := fun k hk e => by have := (h.own_cells k e.symm).1; omega
 have eB : U.heap[B]? = W.heap[B]? := hg.block B (by omega) (ne B hB3);have c1 : U.cell? ⟨B, 0, none⟩ = some v := (cell_of eB).trans h.c;have z1 : U.frozen? ⟨B, 0, none⟩ = false := (frozen_of eB).trans h.z
 have hkb : KeepsB ks W (U.setCell ⟨B, 0, none⟩ v1) := fun k hk => by
  have hk3 := hks k hk;have hne : k ≠ B := fun e => hBk (e ▸ hk)
  exact (Below.heap_setCell U ⟨B, 0, none⟩ v1 k hne).trans (hg.block k (by omega) (ne k hk3))
 refine ⟨c1, z1, ⟨World.cell?_setCell_same _ _ _ c1, by rw [World.frozen?_setCell]; exact z1, Kd.R_far hr (fun k hk => by show k ≠ B; omega) _, hb.setCell hwB _, ?_, h.hK.trans hkb⟩, hkb, fun k o hk ho hne => ?_⟩
 · have := hg.size; simp; omega
 refine (Below.heap_setCell U ⟨B, 0, none⟩ v1 k hne).trans ((hg.block k (Array.getElem?_eq_some_iff.1 hk).1 (fun e => ?_)).trans hk);obtain ⟨_, _, cells, q, hc⟩ := h.own_cells k e.symm;rw [hk] at hc;injection hc with hc
 subst hc;exact absurd ho (by simp [Obj.isCells])
theorem keepsFrom {P : Nat} (hB3 : B < P) (h : ∀ (k : Nat) (o : Obj), W.heap[k]? = some o → o.isCells = false → k ≠ B → U.heap[k]? = some o) (hs : W.heap.size ≤ U.heap.size) : KeepsFrom P W U :=
 ⟨hs, fun k o hk ho hn => h k o ho hn (by omega)⟩
end RowM
theorem keepsFrom_below {P : Nat} {W U : World} (hb : Below W.heap.size W U) : KeepsFrom P W U :=
 ⟨hb.size, fun k o _ hk _ => (hb.block k (Array.getElem?_eq_some_iff.1 hk).1).trans hk⟩
theorem ent_bytes {n : Nat} (h : n ≤ 64) : (n + 1) * 16 ≤ 140737488355328 := by omega
theorem cget_begins (w4_ : World) (m kx gx F : Nat) (s : ByteArray) (X : List Int) (w5 : World) (hgx : gx < w4_.heap.size) (hF : F < w4_.heap.size) (hcF : w4_.cell? ⟨F, 0, none⟩ = some (.string s)) (hcx : ∀ j, j < 3 * m → w4_.cell? ⟨gx, j, none⟩ = some (.int .i64 (rd X (j : Int))))
  (hw : w5 = ((w4_.alloc (.cells #[.slice none 0 0] 39)).alloc (.cells #[.slice (some ⟨gx, 0, none⟩) (3 * m) kx] 35)).alloc (.cells #[.int .i64 ((3 : Nat) : Int)] 3)) :
  RowM w4_ w4_.heap.size [w4_.heap.size + 1, w4_.heap.size + 1 + 1, gx, F] w5 w5 (.slice none 0 0) [] ∧ w5.cell? ⟨w4_.heap.size + 1, 0, none⟩ = some (.slice (some ⟨gx, 0, none⟩) (3 * m) kx) ∧ w5.cell? ⟨w4_.heap.size + 1 + 1, 0, none⟩ = some (.int .i64 ((3 : Nat) : Int)) ∧
   (∀ j, j < 3 * m → w5.cell? ⟨gx, j, none⟩ = some (.int .i64 (rd X (j : Int)))) ∧ w5.heap.size = w4_.heap.size + 3 ∧ w5.cell? ⟨F, 0, none⟩ = some (.string s) := by
 have hb : Below w4_.heap.size w4_ w5 := by
  rw [hw]; exact (((Below.refl _ w4_).alloc (Nat.le_refl _) _).alloc (by simp) _).alloc (by simp; omega) _
 have hz : w5.heap.size = w4_.heap.size + 3 := by rw [hw]; simp
 refine ⟨⟨?_, ?_, Kd.R_nil _ _ _ _ _, hb, Nat.le_refl _, KeepsB.refl _ _⟩, ?_, ?_, fun j hj => (hb.cell hgx).trans (hcx j hj), hz, (hb.cell hF).trans hcF⟩
 · rw [hw]; simp [go_sem]
 · rw [hw]; simp [go_sem]
 · rw [hw]; simp [go_sem]
 rw [hw]; simp [go_sem]
theorem cget_final {w W W2 : World} {D : Nat} {v : Value} {xs : List S61} (hr : Kd.R k61 61 W2 w.heap.size (fun _ => True) v xs) (hB : Below w.heap.size w W) (hb : Below W.heap.size W W2) (hd : W.heap[D]? = some (.deferred (some []))) (hwD : w.heap.size ≤ D) :
  Kd.R k61 61 (W2.putObj D (.deferred none)) w.heap.size (fun _ => True) v xs ∧ Below w.heap.size w (W2.putObj D (.deferred none)) ∧ W2.heap[D]? = some (.deferred (some [])) := by
 have hd2 : W2.heap[D]? = some (.deferred (some [])) := (hb.block D (blk_lt hd)).trans hd;have hB2 := hB.trans (hb.mono hB.size);have hg := grownBy_putObj' W2 D (.deferred none);refine ⟨Kd.R_mono (Kd.R_grown (Kd.R_bound hr) hg (fun k hk e => ?_)) (fun _ _ => trivial), hB2.grown hg hB2.size (fun k e => by cases e; exact hwD), hd2⟩;obtain ⟨_, _, _, q, _, cells, hc⟩ := hk;cases e
 rw [hd2] at hc;injection hc with hc
 cases hc
theorem getM_form {s : ByteArray} (h : 4 ≤ s.size) (hf : w2 s 0 ≠ 0) : getM s = ([], 5) := by
 unfold getM;rw [if_neg (by omega), if_pos hf]
theorem getM_long {s : ByteArray} (h : 4 ≤ s.size) (hf : w2 s 0 = 0) (hn : 64 < w2 s 2) : getM s = ([], 7) := by
 unfold getM;rw [if_neg (by omega), if_neg (by omega), if_pos hn]
theorem getM_more {s : ByteArray} {m : Nat} (h : 4 ≤ s.size) (hf : w2 s 0 = 0) (hn : w2 s 2 = (m : Int)) (hm : m ≤ 64) (hs : ¬ 4 + 8 * m ≤ s.size) : getM s = ([], 4) := by
 unfold getM;rw [if_neg (by omega), if_neg (by omega), if_neg (by omega), if_pos (by omega)]
theorem getM_of {s : ByteArray} {m : Nat} (h : 4 ≤ s.size) (hf : w2 s 0 = 0) (hn : w2 s 2 = (m : Int)) (hm : m ≤ 64) (hs : 4 + 8 * m ≤ s.size) : getM s = if (bestS (entsM s m)).2 = false then ([], 6) else readM (s.extract (bestS (entsM s m)).1.f1.toNat s.size) := by
 unfold getM;rw [if_neg (by omega), if_neg (by omega), if_neg (by omega), if_neg (by omega), hn, Int.toNat_natCast]
theorem bestS_mem : ∀ (l : List S47) (o : S47 × Bool), (l.foldl pickS o) = o ∨ ∃ x ∈ l, l.foldl pickS o = (x, true)
 | [], o => .inl rfl
 | x :: l, o => by
  rw [List.foldl_cons]
  have hp : pickS o x = (x, true) ∨ pickS o x = o := by
   unfold pickS;split
   · exact .inl rfl
   exact .inr rfl
  rcases bestS_mem l (pickS o x) with h | ⟨y, hy, h⟩
  ·
   rcases hp with hp | hp
   · exact .inr ⟨x, List.mem_cons_self, by rw [h, hp]⟩
   exact .inl (by rw [h, hp])
  exact .inr ⟨y, List.mem_cons_of_mem _ hy, h⟩
theorem bestS_true {l : List S47} {x : S47} (h : bestS l = (x, true)) : x ∈ l := by
 rcases bestS_mem l (⟨0, 0⟩, false) with h1 | ⟨y, hy, h1⟩
 · unfold bestS at h; rw [h1] at h; exact absurd (Prod.mk.inj h).2 (by decide)
 unfold bestS at h; rw [h1] at h; rw [← (Prod.mk.inj h).1]; exact hy
theorem best_at {s : ByteArray} {m : Nat} {x : S47} (h : bestS (entsM s m) = (x, true)) : 0 ≤ x.f1 ∧ x.f1.toNat + 2 ≤ s.size := by
 have hx := bestS_true h;unfold entsM at hx;rw [List.mem_filter] at hx;obtain ⟨h1, h2⟩ := hx;obtain ⟨i, _, rfl⟩ := List.mem_map.1 h1;unfold mayM at h2;simp only [Bool.and_eq_true, decide_eq_true_eq] at h2;exact ⟨(w4_bd s (8 + 8 * i)).1, h2.2.1⟩
theorem Formats.below {W U : World} {bm m1 m2 : Nat} (h : Formats W bm m1 m2) (hb : Below W.heap.size W U) : Formats U bm m1 m2 :=
 ⟨(hb.block _ (blk_lt' h.m)).trans h.m, (hb.block _ (blk_lt' h.a)).trans h.a, (hb.block _ (blk_lt' h.c)).trans h.c⟩
theorem look_form (f : Int) : ∃ (v0 : Value) (v1 : Nat → Nat → Value) (a b : Int), v0.oneCell' = true ∧ (∀ m1 m2, (v1 m1 m2).oneCell' = true) ∧
  ∀ (W : World) (bm m1 m2 : Nat), Formats W bm m1 m2 → (Instr.lookup 51 (.map (some bm)) (.int .i64 f) true).run Tryz.prog W = .ok (.tuple #[.agg #[v0, v1 m1 m2, .int .i64 a, .int .i64 b], .bool (isFmt f)]) W := by
 have hrun : ∀ (W : World) (bm m1 m2 i : Nat) (v : Value), Formats W bm m1 m2 → fmtOf f m1 m2 = some (i, v) → (Instr.lookup 51 (.map (some bm)) (.int .i64 f) true).run Tryz.prog W = .ok (.tuple #[v, .bool true]) W := fun W bm m1 m2 i v hF hx =>
  look_run W bm _ _ f hF.m (some (i, v)) ((find_fmt f m1 m2).trans (congrArg some hx))
 have hrun0 : ∀ (W : World) (bm m1 m2 : Nat), Formats W bm m1 m2 → fmtOf f m1 m2 = none → (Instr.lookup 51 (.map (some bm)) (.int .i64 f) true).run Tryz.prog W = .ok (.tuple #[.agg #[.nilFunc, .nilFunc, .int .i64 0, .int .i64 0], .bool false]) W := fun W bm m1 m2 hF hx =>
  look_run W bm _ _ f hF.m none ((find_fmt f m1 m2).trans (congrArg some hx))
 by_cases h : isFmt f = true
 case neg =>
  have h : isFmt f = false := by cases hh : isFmt f with | true => exact absurd hh h | false => rfl
  rw [h];exact ⟨.nilFunc, fun _ _ => .nilFunc, 0, 0, rfl, fun _ _ => rfl, fun W bm m1 m2 hF => hrun0 W bm m1 m2 hF (fmt_not h m1 m2)⟩
 rw [h];have hh := of_decide_eq_true h;by_cases h0 : f = 0
 · exact ⟨_, fun _ _ => _, _, _, rfl, fun _ _ => rfl, fun W bm m1 m2 hF => hrun W bm m1 m2 0 fmt0 hF (by unfold fmtOf; rw [if_pos h0])⟩
 by_cases h1 : f = 4
 · exact ⟨_, fun _ _ => _, _, _, rfl, fun _ _ => rfl, fun W bm m1 m2 hF => hrun W bm m1 m2 1 fmt4 hF (by unfold fmtOf; rw [if_neg h0, if_pos h1])⟩
 by_cases h2 : f = 6
 · exact ⟨_, fun _ _ => _, _, _, rfl, fun _ _ => rfl, fun W bm m1 m2 hF => hrun W bm m1 m2 2 fmt6 hF (by unfold fmtOf; rw [if_neg h0, if_neg h1, if_pos h2])⟩
 by_cases h3 : f = 12
 · exact ⟨_, fun m1 _ => .func (.func 47) #[] #[.pointer (some ⟨m1, 0, none⟩)], _, _, rfl, fun _ _ => rfl, fun W bm m1 m2 hF => hrun W bm m1 m2 3 (fmtG m1) hF (by unfold fmtOf; rw [if_neg h0, if_neg h1, if_neg h2, if_pos h3])⟩
 exact ⟨_, fun _ m2 => .func (.func 47) #[] #[.pointer (some ⟨m2, 0, none⟩)], _, _, rfl, fun _ _ => rfl, fun W bm m1 m2 hF => hrun W bm m1 m2 4 (fmtG m2) hF (by unfold fmtOf; rw [if_neg h0, if_neg h1, if_neg h2, if_neg h3, if_pos (by omega)])⟩
theorem may_snoc {m : Nat} (s : ByteArray) (X : List Int) (pre : List (Fin m)) (x : Fin m) : ((pre ++ [x]).map (fun x => entX X x.1)).filter (mayM s) = (pre.map (fun x => entX X x.1)).filter (mayM s) ++ (if mayM s (entX X x.1) = true then [entX X x.1] else []) := by
 rw [List.map_append, List.filter_append];congr 1
 show List.filter (mayM s) [entX X x.1] = _
 cases h : mayM s (entX X x.1) with
 | true => rw [if_pos rfl]; exact List.filter_cons_of_pos h
 | false => rw [if_neg Bool.false_ne_true]; exact List.filter_cons_of_neg (by rw [h]; exact Bool.false_ne_true)
theorem may_len {m : Nat} (s : ByteArray) (X : List Int) (pre : List (Fin m)) : ((pre.map (fun x => entX X x.1)).filter (mayM s)).length ≤ pre.length := by
 refine Nat.le_trans (List.length_filter_le _ _) ?_;rw [List.length_map];exact Nat.le_refl _
end Go.Proofs.YtejdflndgnpkcaaGreat.P
end
section
namespace Go.Proofs.YtejdflndgnpkcaaGreat.P
open Go.RowKit Go.Shelf PW PL PM
attribute [local go_sem] Oper.semAt_some
attribute [local go_sem] max2_int min2_int max_two min_two max_three min_three max_four min_four
theorem cget_short (s : ByteArray) (w : World) (h : s.size < 4) :
  Calls Tryz.prog 5 #[.string s] w fun e w' => ∃ v0_ : Value, e = .returned (.tuple #[v0_, .int .i64 4]) ∧ Kd.R k61 61 w' w.heap.size (fun _ => True) v0_ [] ∧ Below w.heap.size w w' := by
 have hg0 := get_two s 0;rw [if_neg (by omega)] at hg0;have HG := hI (show getN s 0 [2, 2] = ([], 4) from hg0);clear h hg0;refine (callsIn_wide (n := 9)).1 (callsIn_of_wp_marks Tryz.func5 rfl trivial (wpIn_wide.2 ?_) rfl);simp only [Tryz.ntmps5, List.size_toArray, List.length_cons, List.length_nil, Nat.reduceAdd, Nat.reduceSub, Array.replicate_succ, Array.replicate_zero, List.push_toArray, List.append_toArray, List.nil_append, List.cons_append];go_wp2_with fail
 have C1 := lit_C (w.alloc (.cells #[.string s] 9)) [2, 2] (by decide);rw [World.size_alloc] at C1;refine (bin_Get.calls s 0 _ 2 [2, 2] [] 4 _ C1 (Nat.le_refl _) (by unfold bin_Get.f; rw [if_pos (by decide), HG.out])).mono ?_;rintro e w1 ⟨v, rfl, hr, hb⟩;have B1 := hI ((below_alloc (below_alloc (Below.refl w.heap.size w) _) _).trans (hb.mono (by simp; omega)));clear hr hb C1;go_wp2;exact ⟨_, results_tmp2 rfl _ _ _, _, rfl, Kd.R_nil _ _ _ _ _, B1.out⟩
theorem st_run (W : World) (a : Addr) (v u : Value) (hv : v.oneCell' = true) (hc : W.cell? a = some u) (hf : W.frozen? a = false) : (store a v).run Tryz.prog W = .ok () (W.setCell a v) := by
 rw [run_store _ _ _ _ _ hv, hc];simp [hf]
theorem store2_run {oi : Oper} {a : Act} {w : World} {g : Nat} {p v : Tmp} {e : TypeId} (x y : Int) {u0 u1 : Value} (hop : oi.op = .store 44 (.tmp p) (.tmp v)) (hp : a.eval (.tmp p) = .pointer (some ⟨g, 0, none⟩)) (hv : a.eval (.tmp v) = .agg #[.int .i64 x, .int .i64 y])
  (hg : w.heap[g]? = some (.cells #[u0, u1] e (0, 0))) :
  (execOp a.eval oi).run Tryz.prog w = .ok .skip ((w.setCell ⟨g, 0, none⟩ (.int .i64 x)).setCell ⟨g, 1, none⟩ (.int .i64 y)) := by
 have c0 : w.cell? ⟨g, 0, none⟩ = some u0 := (blk_cell hg 0).trans rfl;have c1 : w.cell? ⟨g, 1, none⟩ = some u1 := (blk_cell hg 1).trans rfl;have f0 := Lib.frozen_of_heap hg 0;have f1 := Lib.frozen_of_heap hg 1;have hsz : ∀ w : World, (sizeOf 44).run Tryz.prog w = .ok 2 w := fun w => by kernel_rfl
 unfold execOp;rw [hop];dsimp only
 rw [hp, hv];go_simp
theorem store4_run {oi : Oper} {a : Act} {w : World} {g : Nat} {p v : Tmp} {e : TypeId} (v0 v1 : Value) (x y : Int) (o0 : v0.oneCell' = true) (o1 : v1.oneCell' = true) {u0 u1 u2 u3 : Value} (hop : oi.op = .store 49 (.tmp p) (.tmp v)) (hp : a.eval (.tmp p) = .pointer (some ⟨g, 0, none⟩)) (hv : a.eval (.tmp v) = .agg #[v0, v1, .int .i64 x, .int .i64 y])
  (hg : w.heap[g]? = some (.cells #[u0, u1, u2, u3] e (0, 0))) :
  (execOp a.eval oi).run Tryz.prog w = .ok .skip ((((w.setCell ⟨g, 0, none⟩ v0).setCell ⟨g, 1, none⟩ v1).setCell ⟨g, 2, none⟩ (.int .i64 x)).setCell ⟨g, 3, none⟩ (.int .i64 y)) := by
 have h1 := blk_set hg 0 v0;have h2 := blk_set h1 1 v1;have s0 := st_run w ⟨g, 0, none⟩ v0 u0 o0 ((blk_cell hg 0).trans rfl) (Lib.frozen_of_heap hg 0);have s1 := st_run _ ⟨g, 1, none⟩ v1 u1 o1 ((blk_cell h1 1).trans (by simp)) (Lib.frozen_of_heap h1 1);have s2 := st_run _ ⟨g, 2, none⟩ (.int .i64 x) u2 rfl ((blk_cell h2 2).trans (by simp)) (Lib.frozen_of_heap h2 2);have h3 := blk_set h2 2 (.int .i64 x);have s3 := st_run _ ⟨g, 3, none⟩ (.int .i64 y) u3 rfl ((blk_cell h3 3).trans (by simp)) (Lib.frozen_of_heap h3 3);have c2 : w.cell? ⟨g, 2, none⟩ = some u2 := (blk_cell hg 2).trans rfl;have c3 : w.cell? ⟨g, 3, none⟩ = some u3 := (blk_cell hg 3).trans rfl;have f2 := Lib.frozen_of_heap hg 2;have f3 := Lib.frozen_of_heap hg 3;have hsz : ∀ w : World, (sizeOf 49).run Tryz.prog w = .ok 4 w := fun w => by kernel_rfl
 unfold execOp;rw [hop];dsimp only
 rw [hp, hv];go_simp
theorem lookop_run {oi : Oper} {a : Act} {w : World} {p q : Tmp} {bm : Nat} {f : Int} {v : Value} (hop : oi.op = .lookup 51 (.tmp p) (.tmp q) true) (hp : a.eval (.tmp p) = .map (some bm)) (hq : a.eval (.tmp q) = .int .i64 f)
  (hl : (Instr.lookup 51 (.map (some bm)) (.int .i64 f) true).run Tryz.prog w = .ok v w) : (execOp a.eval oi).run Tryz.prog w = .ok (.value v) w := by
 unfold execOp;rw [hop];dsimp only
 rw [hp, hq];simp [hl, Result.andThen]
theorem put2_block {W : World} {g : Nat} {u0 u1 : Value} {e : TypeId} (hg : W.heap[g]? = some (.cells #[u0, u1] e (0, 0))) (v0 v1 : Value) : ((W.setCell ⟨g, 0, none⟩ v0).setCell ⟨g, 1, none⟩ v1).heap[g]? = some (.cells #[v0, v1] e (0, 0)) := by
 have h := blk_set (blk_set hg 0 v0) 1 v1;simpa using h
theorem cget_form (s : ByteArray) (w : World) (h : 4 ≤ s.size) (hform : w2 s 0 ≠ 0) (r : List S61 × Int) (hr : ([], 5) = r) :
  Calls Tryz.prog 5 #[.string s] w fun e w' => ∃ v0_ : Value, e = .returned (.tuple #[v0_, .int .i64 r.2]) ∧ Kd.R k61 61 w' w.heap.size (fun _ => True) v0_ r.1 ∧ Below w.heap.size w w' := by
 have hg0 := get_two s 0;rw [if_pos (by omega)] at hg0;have HG := hI (show getN s 0 [2, 2] = ([w2 s 0, w2 s 2], 0) from hg0);obtain ⟨f, hf⟩ : ∃ f, f = w2 s 0 := ⟨_, rfl⟩;obtain ⟨n, hn⟩ : ∃ n, n = w2 s 2 := ⟨_, rfl⟩;have hnb := w2_bd s 2;rw [← hn] at hnb;have HF := hI hf;have HN := hI hn;have HNB := hI hnb;have HS := hI h;have HR := hI hr;rw [← hf, ← hn] at HG;clear hg0 hf hn hnb h hr;refine (callsIn_wide (n := 9)).1 (callsIn_of_wp_marks Tryz.func5 rfl trivial (wpIn_wide.2 ?_) rfl);simp only [Tryz.ntmps5, List.size_toArray, List.length_cons, List.length_nil, Nat.reduceAdd, Nat.reduceSub, Array.replicate_succ, Array.replicate_zero, List.push_toArray, List.append_toArray, List.nil_append, List.cons_append];go_wp2_with fail
 have C1 := lit_C (w.alloc (.cells #[.string s] 9)) [2, 2] (by decide);rw [World.size_alloc] at C1;refine (bin_Get.calls s 0 _ 2 [2, 2] [f, n] 0 _ C1 (Nat.le_refl _) (by unfold bin_Get.f; rw [if_pos (by decide), HG.out])).mono ?_;rintro e w1 ⟨v, rfl, hr, hb⟩;have B1 := hI ((below_alloc (below_alloc (Below.refl w.heap.size w) _) _).trans (hb.mono (by simp; omega)));obtain ⟨g0, k0, rfl, hg1, hg2, hk1, hk2, hcs⟩ := row_block hr (by simp);have hlen : ([f, n] : List Int).length = 2 := rfl;rw [hlen] at hk1 hcs ⊢;have x0 : w1.cell? ⟨g0, 0, none⟩ = some (.int .i64 f) := (hcs 0 (by decide)).trans rfl;have x1 : w1.cell? ⟨g0, 1, none⟩ = some (.int .i64 n) := (hcs 1 (by decide)).trans rfl;have hb0 : ((w.alloc (.cells #[.string s] 9)).alloc (.cells (([2, 2] : List Int).map (Value.int .i64)).toArray 3)).cell? ⟨w.heap.size, 0, none⟩ = some (.string s) := by simp [go_sem]
 have xs : w1.cell? ⟨w.heap.size, 0, none⟩ = some (.string s) := (hb.cell (by simp; omega)).trans hb0;clear hr hb C1 hg1 hk2 hcs hlen hb0;have d1 : (f != 0) = true := by rw [HF.out]; simpa using hform
 have HRE := hI HR.out;clear hform;go_wp2;rw [← HRE.out];exact ⟨_, results_tmp2 rfl _ _ _, _, rfl, Kd.R_nil _ _ _ _ _, B1.out⟩
theorem cget_long (s : ByteArray) (w : World) (h : 4 ≤ s.size) (hform : w2 s 0 = 0) (hlong : 64 < w2 s 2) (r : List S61 × Int) (hr : ([], 7) = r) :
  Calls Tryz.prog 5 #[.string s] w fun e w' => ∃ v0_ : Value, e = .returned (.tuple #[v0_, .int .i64 r.2]) ∧ Kd.R k61 61 w' w.heap.size (fun _ => True) v0_ r.1 ∧ Below w.heap.size w w' := by
 have hg0 := get_two s 0;rw [if_pos (by omega)] at hg0;have HG := hI (show getN s 0 [2, 2] = ([w2 s 0, w2 s 2], 0) from hg0);obtain ⟨f, hf⟩ : ∃ f, f = w2 s 0 := ⟨_, rfl⟩;obtain ⟨n, hn⟩ : ∃ n, n = w2 s 2 := ⟨_, rfl⟩;have hnb := w2_bd s 2;rw [← hn] at hnb;have HF := hI hf;have HN := hI hn;have HNB := hI hnb;have HS := hI h;have HR := hI hr;rw [← hf, ← hn] at HG;clear hg0 hf hn hnb h hr;refine (callsIn_wide (n := 9)).1 (callsIn_of_wp_marks Tryz.func5 rfl trivial (wpIn_wide.2 ?_) rfl);simp only [Tryz.ntmps5, List.size_toArray, List.length_cons, List.length_nil, Nat.reduceAdd, Nat.reduceSub, Array.replicate_succ, Array.replicate_zero, List.push_toArray, List.append_toArray, List.nil_append, List.cons_append];go_wp2_with fail
 have C1 := lit_C (w.alloc (.cells #[.string s] 9)) [2, 2] (by decide);rw [World.size_alloc] at C1;refine (bin_Get.calls s 0 _ 2 [2, 2] [f, n] 0 _ C1 (Nat.le_refl _) (by unfold bin_Get.f; rw [if_pos (by decide), HG.out])).mono ?_;rintro e w1 ⟨v, rfl, hr, hb⟩;have B1 := hI ((below_alloc (below_alloc (Below.refl w.heap.size w) _) _).trans (hb.mono (by simp; omega)));obtain ⟨g0, k0, rfl, hg1, hg2, hk1, hk2, hcs⟩ := row_block hr (by simp);have hlen : ([f, n] : List Int).length = 2 := rfl;rw [hlen] at hk1 hcs ⊢;have x0 : w1.cell? ⟨g0, 0, none⟩ = some (.int .i64 f) := (hcs 0 (by decide)).trans rfl;have x1 : w1.cell? ⟨g0, 1, none⟩ = some (.int .i64 n) := (hcs 1 (by decide)).trans rfl;have hb0 : ((w.alloc (.cells #[.string s] 9)).alloc (.cells (([2, 2] : List Int).map (Value.int .i64)).toArray 3)).cell? ⟨w.heap.size, 0, none⟩ = some (.string s) := by simp [go_sem]
 have xs : w1.cell? ⟨w.heap.size, 0, none⟩ = some (.string s) := (hb.cell (by simp; omega)).trans hb0;clear hr hb C1 hg1 hk2 hcs hlen hb0;have d1 : (f != 0) = false := by rw [HF.out, hform]; rfl
 have d2 : decide ((64 : Int) < n) = true := decide_eq_true (by rw [HN.out]; exact hlong);have HRE := hI HR.out;clear hform hlong;go_wp2;rw [← HRE.out];exact ⟨_, results_tmp2 rfl _ _ _, _, rfl, Kd.R_nil _ _ _ _ _, B1.out⟩
theorem cget_main (s : ByteArray) (w : World) (h : 4 ≤ s.size) (hform : w2 s 0 = 0) (m : Nat) (hm : w2 s 2 = (m : Int)) (hm2 : m ≤ 64) (r : List S61 × Int) (hr : getM s = r) :
  Calls Tryz.prog 5 #[.string s] w fun e w' => ∃ v0_ : Value, e = .returned (.tuple #[v0_, .int .i64 r.2]) ∧ Kd.R k61 61 w' w.heap.size (fun _ => True) v0_ r.1 ∧ Below w.heap.size w w' := by
 have hg0 := get_two s 0;rw [if_pos (by omega)] at hg0;have HG := hI (show getN s 0 [2, 2] = ([w2 s 0, w2 s 2], 0) from hg0);obtain ⟨f, hf⟩ : ∃ f, f = w2 s 0 := ⟨_, rfl⟩;obtain ⟨n, hn⟩ : ∃ n, n = w2 s 2 := ⟨_, rfl⟩;have hnb := w2_bd s 2;rw [← hn] at hnb;have HF := hI hf;have HN := hI hn;have HNB := hI hnb;have HS := hI h;have HR := hI hr;rw [← hf, ← hn] at HG;clear hg0 hf hn hnb h hr;refine (callsIn_wide (n := 9)).1 (callsIn_of_wp_marks Tryz.func5 rfl trivial (wpIn_wide.2 ?_) rfl);simp only [Tryz.ntmps5, List.size_toArray, List.length_cons, List.length_nil, Nat.reduceAdd, Nat.reduceSub, Array.replicate_succ, Array.replicate_zero, List.push_toArray, List.append_toArray, List.nil_append, List.cons_append];go_wp2_with fail
 have C1 := lit_C (w.alloc (.cells #[.string s] 9)) [2, 2] (by decide);rw [World.size_alloc] at C1;refine (bin_Get.calls s 0 _ 2 [2, 2] [f, n] 0 _ C1 (Nat.le_refl _) (by unfold bin_Get.f; rw [if_pos (by decide), HG.out])).mono ?_;rintro e w1 ⟨v, rfl, hr, hb⟩;have B1 := hI ((below_alloc (below_alloc (Below.refl w.heap.size w) _) _).trans (hb.mono (by simp; omega)));obtain ⟨g0, k0, rfl, hg1, hg2, hk1, hk2, hcs⟩ := row_block hr (by simp);have hlen : ([f, n] : List Int).length = 2 := rfl;rw [hlen] at hk1 hcs ⊢;have x0 : w1.cell? ⟨g0, 0, none⟩ = some (.int .i64 f) := (hcs 0 (by decide)).trans rfl;have x1 : w1.cell? ⟨g0, 1, none⟩ = some (.int .i64 n) := (hcs 1 (by decide)).trans rfl;have hb0 : ((w.alloc (.cells #[.string s] 9)).alloc (.cells (([2, 2] : List Int).map (Value.int .i64)).toArray 3)).cell? ⟨w.heap.size, 0, none⟩ = some (.string s) := by simp [go_sem]
 have xs : w1.cell? ⟨w.heap.size, 0, none⟩ = some (.string s) := (hb.cell (by simp; omega)).trans hb0;clear hr hb C1 hg1 hk2 hcs hlen hb0;have d1 : (f != 0) = false := by rw [HF.out, hform]; rfl
 have d2 : decide ((64 : Int) < n) = false := decide_eq_false (by rw [HN.out, hm]; omega);have HM := hI (show n = (m : Int) ∧ m ≤ 64 from ⟨by rw [HN.out, hm], hm2⟩);obtain ⟨X, e1, hgx⟩ : ∃ X e1, getN s 4 (repN [2, 2, 4] m) = (X, e1) := ⟨_, _, rfl⟩;have HGX := hI hgx;have HFM := hI hform;clear hform hm hm2 hgx;go_wp2_with fail
 refine wp_mono (Q := Exit.then ?_ (fun _ _ _ => False)) ?_ ?_;rotate_left 2
 ·
  intro e a w h;cases e with
  | normal => exact h
  | _ => exact (show False from h).elim
 refine bg_ 12 (fun u => u.cell? ⟨w.heap.size, 0, none⟩ = some (.string s) ∧ u.cell? ⟨g0, 1, none⟩ = some (.int .i64 n)) ⟨xs, x1⟩ (fun hHeld => ?_);have hlg := World.block_lt_of_cell? _ _ x1;have hls := World.block_lt_of_cell? _ _ xs;dsimp only at hlg hls
 clear x0 x1 xs;obtain ⟨u0, hu0⟩ : ∃ u0, u0 = w1.drew := ⟨_, rfl⟩;have HU0 := hI (show Below w1.heap.size w1 u0 by rw [hu0]; exact below_drew1 (Below.refl _ _));have HZ0 := hI (show u0.heap.size = w1.heap.size by rw [hu0]; rfl);have HLG := hI (show g0 < u0.heap.size by rw [hu0]; exact hlg);have HLS := hI (show w.heap.size < u0.heap.size by rw [hu0]; exact hls);rw [← hu0] at hHeld ⊢;clear hu0 hlg hls;refine pS_ 2 39 ?_;refine pS_ 3 40 ?_;refine tS_ 0 37 hHeld ?_;refine tS_ 4 41 hHeld ?_;refine oS_ 1 38 (fun K hK => ?_);refine vS_ ?_;refine hK.out _ _ ⟨cell_al _ hHeld.1, cell_al _ hHeld.2⟩ (fun hHeld2 => ?_);clear hK K;refine nS_ ?_;refine oS_ 5 42 (fun K hK => ?_);have C2 := lit_C u0 [2, 2, 4] (by decide)
 have hfr : slices_Repeat.f [2, 2, 4] n = some (repN [2, 2, 4] m) := by
  have := HM.out;unfold slices_Repeat.f;rw [this.1, if_pos (by refine ⟨by omega, by omega, by decide, ?_⟩; show 3 * ((m : Nat) : Int).toNat ≤ _; omega), Int.toNat_natCast]
 refine call_ 21 #[.slice (some ⟨u0.heap.size, 0, none⟩) 3 3, .int .i64 n] (by rfl) rfl (by go_simp <;> rfl) ?_;refine (slices_Repeat.calls _ 3 [2, 2, 4] n _ _ C2 (Nat.le_refl _) hfr).mono ?_;rintro e w2_ ⟨v, rfl, hr, hb⟩;refine ⟨_, rfl, ?_⟩;obtain ⟨A2, k2, rfl⟩ := Kd.R_slice hr;obtain ⟨_, _, e5, hk2, C3⟩ := Kd.R_reads hr;injection e5 with e6 e7 e8
 subst e6;subst e8;have hb2 : Below u0.heap.size u0 w2_ := (below_alloc (Below.refl u0.heap.size u0) _).trans (hb.mono (by simp));have hK2 := hK.out;clear hK;have hk_ : w2_.cell? ⟨w.heap.size, 0, none⟩ = some (.string s) ∧ w2_.cell? ⟨g0, 1, none⟩ = some (.int .i64 n) := ⟨(hb2.cell HLS.out).trans hHeld.1, (hb2.cell HLG.out).trans hHeld.2⟩;refine hK2 _ _ hk_ (fun hHeld3 => ?_);clear hK2 hk_ C2 hfr hr hb e7;have HB2 := hI hb2;clear hb2;refine nS_ ?_;refine oS_ 6 43 (fun K hK => ?_);have hl1 : (repN [2, 2, 4] m).length = 3 * m := by rw [repN_length]; rfl
 refine call_ 20 #[.string s, .int .i64 4, .slice A2 (repN [2, 2, 4] m).length k2] (by rfl) rfl (by go_simp <;> rfl) ?_;refine (bin_Get.calls s 4 A2 k2 (repN [2, 2, 4] m) X e1 w2_ C3 hk2 (by unfold bin_Get.f; rw [if_pos (by rw [hl1]; have := HM.out; omega), HGX.out])).mono ?_;rintro e w3_ ⟨v, rfl, hr, hb⟩;refine ⟨_, rfl, ?_⟩;have hK2 := hK.out;clear hK;have hk_ : w3_.cell? ⟨w.heap.size, 0, none⟩ = some (.string s) ∧ w3_.cell? ⟨g0, 1, none⟩ = some (.int .i64 n) := ⟨kM hb hHeld3.1, kM hb hHeld3.2⟩;refine hK2 _ _ hk_ (fun hHeld4 => ?_);clear hK2 hk_;have B3 := hI ((B1.out.trans (HU0.out.mono B1.out.size)).trans (((HB2.out.trans (hb.mono HB2.out.size)).mono (by rw [HZ0.out]; exact B1.out.size))));have cS3 := hHeld4.1;refine nS_ ?_;refine pS_ 7 36 ?_;refine pS_ 8 44 ?_;refine pS_ 9 45 ?_;refine pS_ 10 6 ?_;refine pS_ 11 5 ?_;refine dS_ ?_;clear hHeld hHeld2 hHeld3 hHeld4 C3 hk2 hl1 hg2 hk1 HU0 HZ0 HLG HLS HB2;have hrec := get_recs s m HS.out;rw [HGX.out] at hrec;by_cases hsz : 4 + 8 * m ≤ s.size
 case neg =>
  rw [if_neg hsz] at hrec;obtain ⟨rfl, rfl⟩ := Prod.mk.inj hrec;obtain ⟨A3, k3, rfl⟩ := Kd.R_slice hr;have HRE := hI (HR.out.symm.trans (getM_more HS.out HFM.out (by rw [← HN.out]; exact HM.out.1) HM.out.2 hsz));clear hrec hr hb hsz;go_wp2;rw [HRE.out];exact ⟨_, results_tmp2 rfl _ _ _, _, rfl, Kd.R_nil _ _ _ _ _, B3.out⟩
 rw [if_pos hsz] at hrec;obtain ⟨hX, rfl⟩ := Prod.mk.inj hrec;have HX := hI hX;have HXL := hI (show X.length = 3 * m by rw [hX]; simp)
 have hres : (if (bestS (entsM s m)).2 = false then ([], 6) else readM (s.extract (bestS (entsM s m)).1.f1.toNat s.size)) = r := by
  rw [← HR.out, getM_of HS.out HFM.out (by rw [← HN.out]; exact HM.out.1) HM.out.2 hsz]
 have HRES := hI hres;have HSZ := hI hsz;have hcS := World.block_lt_of_cell? _ _ cS3;dsimp only at hcS
 have HCS := hI cS3;have HCL := hI hcS;clear hrec hX hsz hres cS3 hcS;by_cases hm0 : m = 0
 ·
  obtain ⟨A3, k3, rfl⟩ := Kd.R_slice hr;have hx0 : X.length = 0 := by rw [HXL.out, hm0]
  rw [hx0];have HM0 := hI hm0;clear hr hb hx0 hm0;go_wp2_with fail
  have hch := chunk_calls A3 0 k3 3 (by decide) (by decide) (w3_.alloc (.cells #[.slice none 0 0] 39));refine hch.mono ?_;clear hch;rintro x w5 ⟨rfl, hw5⟩;have hb5 : Below w3_.heap.size w3_ w5 := by rw [hw5]; exact (((Below.refl _ w3_).alloc (Nat.le_refl _) _).alloc (by simp) _).alloc (by simp; omega) _
  have hz5 : w5.heap.size = w3_.heap.size + 3 := by rw [hw5]; simp
  have c5 : w5.cell? ⟨w3_.heap.size + 1, 0, none⟩ = some (.slice A3 0 k3) := by rw [hw5]; simp [go_sem]
  have c6 : w5.cell? ⟨w3_.heap.size, 0, none⟩ = some (.slice none 0 0) := by rw [hw5]; simp [go_sem]
  have hs4 : (w3_.alloc (.cells #[.slice none 0 0] 39)).heap.size = w3_.heap.size + 1 := by simp
  simp only [hs4];have HB5 := hI hb5;have HZ5 := hI hz5;have HC5 := hI c5;have HC6 := hI c6;clear hb5 hz5 c5 c6 hs4 hw5;go_wp2_with fail
  refine (wpIn_wide (n := 9)).1 ?_
  refine wpIn_rangeFunc_ownG (F := Fence.wide) (n := 9) rfl (by decide) (gf := 44) (lb := #[.pointer (some ⟨w3_.heap.size + 1, 0, none⟩), .pointer (some ⟨w3_.heap.size + 1 + 1, 0, none⟩)]) rfl trivial (enters_of Tryz.func44 (by kernel_rfl) rfl)
   (chunk0_stops 8 (w3_.heap.size + 1) (w3_.heap.size + 1 + 1) A3 k3 [w3_.heap.size] w5 (by have := HZ5.out; omega) HC5.out (fun _ => #[.slice none 0 0]))
   (fun h k => h.trans k) (keepsB_b (fun k hk => by have := HZ5.out; simp at hk; omega)) (Below.refl _ _) (fun _ => rfl)
   (fun pre W => Below w.heap.size w W ∧ KeepsB [w3_.heap.size] w5 W)
   (fun _ _ _ => False) ?hI0 (fun _ _ _ _ _ hs _ _ => hs) ⟨B3.out.trans (HB5.out.mono B3.out.size), KeepsB.refl _ _⟩ (fun x => x.elim0) ?assign0 ?body0 ?done0 ?stop0
  case hI0 =>
   intro s_ A_ U row hv hg hr;refine ⟨hv.1.grown hg hv.1.size (fun k e => by have := (hr k e).1; have := HZ5.out; have := B3.out.size; omega), fun k hk => ?_⟩;have hk' : k = w3_.heap.size := by simpa using hk
   subst hk'
   have hsz : w3_.heap.size < A_.heap.size := by
    have := hv.2 w3_.heap.size (by simp);have hlt : w3_.heap.size < w5.heap.size := by have := HZ5.out; omega
    rw [Array.getElem?_eq_getElem hlt] at this;exact (Array.getElem?_eq_some_iff.1 this).1
   exact (hg.block _ hsz (fun e => by have := (hr _ e.symm).1; have := HZ5.out; omega)).trans (hv.2 _ (by simp))
  case assign0 =>
   intro l x W K hK;exact x.elim0
  case body0 =>
   rintro l pre x W hv hlt;exact x.elim0
  case done0 =>
   rintro D ys W hD rfl hv hdef;have cB := (hv.2.cell (p := ⟨w3_.heap.size, 0, none⟩) (by simp)).trans HC6.out;have HD := hI hD;have HDEF := hI hdef;have HV := hI hv.1;have hP := pick_walk none 0 [] W (Kd.C_nil _ _) (Nat.le_refl _) (Nat.zero_le _)
   have hres : r = ([], 6) := by
    rw [← HRES.out, HM0.out];rfl
   have HRE := hI hres;clear hD hdef hv hres;go_wp2_with fail
   refine hP.mono ?_;clear hP;rintro x W2 ⟨rfl, hb⟩;obtain ⟨f1, f2, f3⟩ := cget_final (v := .slice none 0 0) (xs := []) (W2 := W2.alloc (.cells #[.int .i64 0, .int .i64 0] 44)) (Kd.R_nil _ _ _ _ _) HV.out (hb.alloc hb.size _) HDEF.out (by have := HD.out; have := HZ5.out; have := B3.out.size; omega);have HF1 := hI f1;have HF2 := hI f2;have HF3 := hI f3;clear hb cB f1 f2 f3;go_wp2;refine ⟨by simp, .inl ⟨_, _, rfl, run_takeDeferred HF3.out, ?_⟩⟩;refine ⟨_, results_tmp2 rfl _ _ _, ?_⟩;rw [HRE.out];exact ⟨_, rfl, HF1.out, HF2.out⟩
  case stop0 =>
   rintro D c pre W _ _ h _;exact h.elim
 obtain ⟨gx, kx, rfl, hgx1, hgx2, hkx1, hkx2, hcx⟩ := row_block hr (by rw [HXL.out]; omega);rw [HXL.out] at hkx1 hcx;rw [HXL.out];have HM1 := hI (show 1 ≤ m by omega);have HGXL := hI (show gx < w3_.heap.size ∧ 3 * m ≤ kx ∧ kx ≤ maxLen from ⟨hgx2, hkx1, hkx2⟩);have HCX := hI hcx;clear hr hb hgx1 hgx2 hkx1 hkx2 hcx hm0;go_wp2_with fail
 have hch := chunk_calls (some ⟨gx, 0, none⟩) (3 * m) kx 3 (by decide) (by decide) (w3_.alloc (.cells #[.slice none 0 0] 39));refine hch.mono ?_;clear hch;rintro x w5 ⟨rfl, hw5⟩;obtain ⟨P5, Q5, R5, S5, T5, U5⟩ := cget_begins w3_ m kx gx w.heap.size s X w5 HGXL.out.1 HCL.out HCS.out HCX.out hw5;have HP5 := hI P5;have HQ5 := hI Q5;have HR5 := hI R5;have HS5 := hI S5;have HT5 := hI T5;have HU5 := hI U5;have hs4 : (w3_.alloc (.cells #[.slice none 0 0] 39)).heap.size = w3_.heap.size + 1 := by simp
 simp only [hs4];have HWB := hI (Nat.le_refl w3_.heap.size);have HB3 := hI (show w3_.heap.size < w5.heap.size by rw [T5]; omega);have HKS := hI (show ∀ k ∈ [w3_.heap.size + 1, w3_.heap.size + 1 + 1, gx, w.heap.size], k < w5.heap.size from fun k hk => by have := HGXL.out.1; have := HCL.out; rw [T5]; simp at hk; omega);have HNK := hI (show w3_.heap.size ∉ [w3_.heap.size + 1, w3_.heap.size + 1 + 1, gx, w.heap.size] from fun hk => by have := HGXL.out.1; have := HCL.out; simp at hk; omega);clear P5 Q5 R5 S5 T5 U5 hw5 hs4;go_wp2_with fail
 refine (wpIn_wide (n := 9)).1 ?_
 refine wpIn_rangeFunc_ownG (F := Fence.wide) (n := 9) rfl (by decide) (gf := 44) (lb := #[.pointer (some ⟨w3_.heap.size + 1, 0, none⟩), .pointer (some ⟨w3_.heap.size + 1 + 1, 0, none⟩)]) rfl trivial (enters_of Tryz.func44 (by kernel_rfl) rfl)
  (chunk_stops 8 (w3_.heap.size + 1) (w3_.heap.size + 1 + 1) gx 3 m (3 * m) kx [w3_.heap.size + 1, w3_.heap.size + 1 + 1, gx, w.heap.size] w5 rfl (by decide) HM1.out (by have := HM.out; omega) HGXL.out.2.1 HGXL.out.2.2 (by simp) (by simp) (by have := HT5.out; omega) (by have := HT5.out; omega) HQ5.out HR5.out)
  (fun h k => h.trans k) (keepsB_b (fun k hk => by have := HT5.out; have := HGXL.out.1; have := HCL.out; simp at hk; omega)) (Below.refl _ _) (fun _ => rfl)
  (fun pre W => ∃ v, RowM w3_ w3_.heap.size [w3_.heap.size + 1, w3_.heap.size + 1 + 1, gx, w.heap.size] w5 W v ((pre.map (fun x => entX X x.1)).filter (mayM s)))
  (fun _ _ _ => False) ?hI (fun _ _ _ _ _ hs _ _ => hs) ⟨_, HP5.out⟩ ?a1 ?assign ?body ?done ?stop
 case hI => exact fun s A U row ⟨v, hv⟩ hg hr => ⟨v, hv.kept HWB.out HB3.out HKS.out hg hr⟩
 case assign =>
  intro l x W K hK;gi_wp2
  exact hK
 case stop =>
  rintro D c pre W _ _ h _;exact h.elim
 case body =>
  rintro l pre x W ⟨v, hv⟩ hlt;have hx := x.2;have ca := (hv.hK.cell (p := ⟨gx, 3 * x.1, none⟩) (by simp)).trans (HS5.out (3 * x.1) (by omega));have cb := (hv.hK.cell (p := ⟨gx, 3 * x.1 + 1, none⟩) (by simp)).trans (HS5.out (3 * x.1 + 1) (by omega));have cc := (hv.hK.cell (p := ⟨gx, 3 * x.1 + 2, none⟩) (by simp)).trans (HS5.out (3 * x.1 + 2) (by omega));have cd := (hv.hK.cell (p := ⟨w.heap.size, 0, none⟩) (by simp)).trans HU5.out;obtain ⟨fa, hfa⟩ : ∃ fa, fa = rd X ((3 * x.1 : Nat) : Int) := ⟨_, rfl⟩;obtain ⟨fb, hfb⟩ : ∃ fb, fb = rd X ((3 * x.1 + 1 : Nat) : Int) := ⟨_, rfl⟩;obtain ⟨fc, hfc⟩ : ∃ fc, fc = rd X ((3 * x.1 + 2 : Nat) : Int) := ⟨_, rfl⟩;rw [← hfa] at ca;rw [← hfb] at cb;rw [← hfc] at cc;have HPM := hI (show entX X x.1 = ⟨bestP fa fb, fc⟩ by rw [hfa, hfb, hfc]; rfl);have HFC := hI (show 0 ≤ fc ∧ fc ≤ 4294967295 by rw [hfc, recs_rd s m X HX.out _ (by omega)]; exact recs_bd _ _ _);have HV := hI hv;have HPL := hI hlt;have HX2 := hI hx;have HGW := hI (show gx < W.heap.size from Nat.lt_of_lt_of_le (HKS.out gx (by simp)) hv.hS);have HCD := hI cd;clear hv hfa hfb hfc hlt hx cd;gi_wp2_with fail
  refine start_in (m := 13) (S := fun u => u.cell? ⟨gx, 3 * x.1, none⟩ = some (.int .i64 fa) ∧ u.cell? ⟨gx, 3 * x.1 + 1, none⟩ = some (.int .i64 fb) ∧ u.cell? ⟨gx, 3 * x.1 + 2, none⟩ = some (.int .i64 fc)) (ds := []) #[false, false, false, false, false, false, false, false, false, false, false, false, false] (by kernel_rfl) rfl rfl (by kernel_rfl) (by rintro ⟨_, _, h⟩; exact h) ⟨ca, cb, cc⟩ (fun hHeld => ?_);clear ca cb cc;obtain ⟨u0, hu0⟩ : ∃ u0, u0 = W.drew := ⟨_, rfl⟩;have HU0 := hI (show Below W.heap.size W u0 by rw [hu0]; exact below_drew1 (Below.refl _ _));have HZ0 := hI (show u0.heap.size = W.heap.size by rw [hu0]; rfl);have HGL := hI (show gx < u0.heap.size by rw [hu0]; exact HGW.out);rw [← hu0] at hHeld ⊢;clear hu0;refine pS_ 0 52 ?_;refine pS_ 1 53 ?_;refine pS_ 3 55 ?_;refine pS_ 4 56 ?_;refine pS_ 7 59 ?_;refine pS_ 8 60 ?_;refine tS_ 2 54 hHeld ?_;refine tS_ 5 57 hHeld ?_;refine tS_ 9 61 hHeld ?_;refine join_ (σ := Nat) 1 #[true, true, true, true, true, true, true, true, true, true, true, true, false] (fun F => [(58, .int .i64 (bestP fa fb)), (62, .agg #[.int .i64 (bestP fa fb), .int .i64 fc]), (9, .pointer (some ⟨F, 0, none⟩))]) (fun F w' => w'.heap[F]? = some (.cells #[.int .i64 0, .int .i64 0] 44 (0, 0)) ∧ Below u0.heap.size u0 w' ∧ u0.heap.size ≤ F) ?hc (fun hcont => ?_);rotate_left
  ·
   refine two_ (i := 6) (j := 11) (Ni := some 58) (Nj := some 9) #[true, true, true, true, true, true, true, true, true, true, false, false, false] #[true, true, true, true, true, true, false, true, true, true, false, true, false] rfl rfl rfl rfl (by kernel_rfl) (by decide) (by decide) (fun K hK => ?_) (fun K hK => ?_)
   ·
    refine call_ 15 #[.int .i64 fa, .int .i64 fb] (by rfl) rfl (by go_simp <;> rfl) ?_;refine (cmap_Best.calls 20 fa fb (bestP fa fb) _ (best_told fa fb 20 (Nat.le_refl _))).mono ?_;rintro e V1 ⟨rfl, hb1⟩;refine ⟨_, rfl, ?_⟩;have hK2 := hK.out;clear hK;have hH1 := (⟨(hb1.cell HGL.out).trans hHeld.1, (hb1.cell HGL.out).trans hHeld.2.1, (hb1.cell HGL.out).trans hHeld.2.2⟩ : V1.cell? ⟨gx, 3 * x.1, none⟩ = some (.int .i64 fa) ∧ V1.cell? ⟨gx, 3 * x.1 + 1, none⟩ = some (.int .i64 fb) ∧ V1.cell? ⟨gx, 3 * x.1 + 2, none⟩ = some (.int .i64 fc));refine hK2 _ _ hH1 (fun hHeldB => ?_);clear hK2;refine nS_ ?_;refine pS_ 10 62 ?_;refine oS_ 11 9 (fun K hK => ?_);refine vS_ ?_;refine hK.out _ _ ⟨cell_al _ hHeldB.1, cell_al _ hHeldB.2.1, cell_al _ hHeldB.2.2⟩ (fun hHeldC => ?_);clear hK K;refine norm_ ?_ (hcont V1.heap.size _ ⟨heap_alloc_new _ _, hb1.alloc hb1.size _, hb1.size⟩);simp only [putAll, Act.put, List.setIfInBounds_toArray, List.set_cons_zero, List.set_cons_succ, i64_w, i32_w]
   refine vS_ ?_;refine hK.out _ _ ⟨cell_al _ hHeld.1, cell_al _ hHeld.2.1, cell_al _ hHeld.2.2⟩ (fun hHeldB => ?_);clear hK K;refine nS_ ?_;refine oS_ 6 58 (fun K hK => ?_);refine call_ 15 #[.int .i64 fa, .int .i64 fb] (by rfl) rfl (by go_simp <;> rfl) ?_;refine (cmap_Best.calls 20 fa fb (bestP fa fb) _ (best_told fa fb 20 (Nat.le_refl _))).mono ?_;rintro e V1 ⟨rfl, hb1⟩;refine ⟨_, rfl, ?_⟩;have hK2 := hK.out;clear hK;have hb2 : Below u0.heap.size u0 V1 := ((Below.refl _ u0).alloc (Nat.le_refl _) _).trans (hb1.mono (by simp));have hH1 := (⟨(hb2.cell HGL.out).trans hHeld.1, (hb2.cell HGL.out).trans hHeld.2.1, (hb2.cell HGL.out).trans hHeld.2.2⟩ : V1.cell? ⟨gx, 3 * x.1, none⟩ = some (.int .i64 fa) ∧ V1.cell? ⟨gx, 3 * x.1 + 1, none⟩ = some (.int .i64 fb) ∧ V1.cell? ⟨gx, 3 * x.1 + 2, none⟩ = some (.int .i64 fc));refine hK2 _ _ hH1 (fun hHeldC => ?_);clear hK2;refine nS_ ?_;refine pS_ 10 62 ?_;refine norm_ ?_ (hcont u0.heap.size _ ⟨(hb1.block _ (by simp)).trans (heap_alloc_new _ _), hb2, Nat.le_refl _⟩);simp only [putAll, Act.put, List.setIfInBounds_toArray, List.set_cons_zero, List.set_cons_succ, i64_w, i32_w]
  rintro F V1 ⟨hF, hb1, hge⟩;refine norm_ (a' := ?_) ?_ ?_;rotate_left
  ·
   simp only [putAll, Act.put, List.setIfInBounds_toArray, List.set_cons_zero, List.set_cons_succ, i64_w, i32_w];rfl
  refine oN_ 12 (fun K hK => ?_);refine skip_ (w1 := (V1.setCell ⟨F, 0, none⟩ (.int .i64 (bestP fa fb))).setCell ⟨F, 1, none⟩ (.int .i64 fc)) (by rfl) rfl ?_ ?_
  · exact store2_run _ _ rfl rfl rfl hF
  have hb2 : Below u0.heap.size u0 ((V1.setCell ⟨F, 0, none⟩ (.int .i64 (bestP fa fb))).setCell ⟨F, 1, none⟩ (.int .i64 fc)) := (hb1.setCell hge _).setCell hge _;have HUF := hI (put2_block hF (.int .i64 (bestP fa fb)) (.int .i64 fc));refine hK.out _ _ ⟨(hb2.cell HGL.out).trans hHeld.1, (hb2.cell HGL.out).trans hHeld.2.1, (hb2.cell HGL.out).trans hHeld.2.2⟩ (fun hHeld2 => ?_);clear hK K;refine dS_ ?_;obtain ⟨U, hU⟩ : ∃ U, U = (V1.setCell ⟨F, 0, none⟩ (.int .i64 (bestP fa fb))).setCell ⟨F, 1, none⟩ (.int .i64 fc) := ⟨_, rfl⟩;rw [← hU] at hb2 HUF ⊢;have HBU := hI (show Below W.heap.size W U from HU0.out.trans (hb2.mono (by rw [HZ0.out]; exact Nat.le_refl _)));have HFG := hI (show W.heap.size ≤ F by rw [← HZ0.out]; exact hge);clear hU hF hb1 hge hb2 hHeld hHeld2 HU0 HZ0 HGL;have hcd := (HBU.out.cell (World.block_lt_of_cell? _ _ HCD.out)).trans HCD.out;have z0 : U.cell? ⟨F, 0, none⟩ = some (.int .i64 (bestP fa fb)) := (blk_cell HUF.out 0).trans rfl;have z1 : U.cell? ⟨F, 1, none⟩ = some (.int .i64 fc) := (blk_cell HUF.out 1).trans rfl;obtain ⟨bp, hbp⟩ : ∃ bp, bp = bestP fa fb := ⟨_, rfl⟩;rw [← hbp] at z0 HUF HPM ⊢
  have HSKIP := hI (show ∀ U', Below W.heap.size W U' → mayM s ⟨bp, fc⟩ = false → KeepsFrom w5.heap.size W U' ∧ KeepsB [w3_.heap.size + 1, w3_.heap.size + 1 + 1, gx, w.heap.size] W U' ∧ ∃ v, RowM w3_ w3_.heap.size [w3_.heap.size + 1, w3_.heap.size + 1 + 1, gx, w.heap.size] w5 U' v (((pre ++ [x]).map (fun x => entX X x.1)).filter (mayM s)) from
   fun U' hb hm => ⟨keepsFrom_below hb, fun k hk => hb.block k (Nat.lt_of_lt_of_le (HKS.out k hk) HV.out.hS), v, by rw [may_snoc, HPM.out, hm, if_neg Bool.false_ne_true, List.append_nil]; exact HV.out.below HKS.out hb⟩)
  obtain ⟨Y, e9, hy⟩ : ∃ Y e9, getN s fc [2] = (Y, e9) := ⟨_, _, rfl⟩;have HY := hI hy;clear hbp hy;gi_wp2_with fail
  refine ⟨trivial, CallsIn.inRound _ (callsIn_wide.2 ?_)⟩;have D1 := lit_C U [2] (by decide);refine (bin_Get.calls s fc _ 1 [2] Y e9 _ D1 (Nat.le_refl _) (by unfold bin_Get.f; rw [if_pos (by decide), HY.out])).mono ?_;rintro e U2 ⟨v2, rfl, hr2, hb2⟩;have hbu : Below U.heap.size U U2 := (below_alloc (Below.refl U.heap.size U) _).trans (hb2.mono (by simp));have HB2 := hI (HBU.out.trans (hbu.mono HBU.out.size));have y0 := (hbu.cell (World.block_lt_of_cell? _ _ z0)).trans z0;have HF2 := hI ((hbu.block F (blk_lt HUF.out)).trans HUF.out);obtain ⟨pp, hpp⟩ := Int.eq_ofNat_of_zero_le HFC.out.1;have hone := get_one s pp;rw [← hpp, HY.out] at hone;have HONE := hI hone;have HPP := hI hpp;clear hb2 hbu D1 hcd z0 z1 hone hpp HUF;by_cases h0 : bp = 0
  ·
   have d5 : (bp == 0) = true := by rw [h0]; rfl
   obtain ⟨A9, k9, rfl⟩ := Kd.R_slice hr2;have HM0 := hI (show mayM s ⟨bp, fc⟩ = false by unfold mayM; rw [h0]; rfl);clear h0 hr2;gi_wp2
   exact HSKIP.out _ HB2.out HM0.out
  have d5 : (bp == 0) = false := by simpa using h0
  by_cases hsp : pp + 2 ≤ s.size
  case neg =>
   rw [if_neg hsp] at HONE;obtain ⟨rfl, rfl⟩ := Prod.mk.inj HONE.out;obtain ⟨A9, k9, rfl⟩ := Kd.R_slice hr2;have HM0 := hI (show mayM s ⟨bp, fc⟩ = false by unfold mayM; dsimp only; rw [HPP.out, Int.toNat_natCast, decide_eq_false hsp]; simp);clear h0 hr2 hsp;gi_wp2
   exact HSKIP.out _ HB2.out HM0.out
  rw [if_pos hsp] at HONE;obtain ⟨hY, rfl⟩ := Prod.mk.inj HONE.out;have HMAY := hI (show mayM s ⟨bp, fc⟩ = isFmt (w2 s pp) by unfold mayM; dsimp only; rw [HPP.out, Int.toNat_natCast, decide_eq_true hsp, decide_eq_true h0]; simp);obtain ⟨f9, hf9⟩ : ∃ f9, f9 = w2 s pp := ⟨_, rfl⟩;rw [← hf9] at HMAY hY;subst hY;obtain ⟨ga, k9, rfl, hga1, hga2, _, _, hcy⟩ := row_block hr2 (by simp);have hlen9 : ([f9] : List Int).length = 1 := rfl;rw [hlen9] at hcy ⊢;have cy : U2.cell? ⟨ga, 0, none⟩ = some (.int .i64 f9) := (hcy 0 (by decide)).trans rfl;have HGA := hI hga2;obtain ⟨v0, vf, fa_, fb_, ho0, ho1, hlk⟩ := look_form f9;have HO0 := hI ho0;have HO1 := hI ho1;have HLK := hI hlk;clear h0 hsp hf9 hr2 hga1 hga2 hcy hlen9 ho0 ho1 hlk;gi_wp2_with fail
  refine start_in (m := 11) (S := fun u => u.cell? ⟨ga, 0, none⟩ = some (.int .i64 f9)) (ds := []) #[false, false, false, false, false, false, false, false, false, false, false] (by kernel_rfl) rfl rfl (by kernel_rfl) (by rintro ⟨_, _, h⟩; exact h) cy (fun hHeld => ?_);clear cy y0;obtain ⟨u1, hu1⟩ : ∃ u1, u1 = U2.drew := ⟨_, rfl⟩;have HU1 := hI (show Below U2.heap.size U2 u1 by rw [hu1]; exact below_drew1 (Below.refl _ _));have HZ1 := hI (show u1.heap.size = U2.heap.size by rw [hu1]; rfl);have HGL := hI (show ga < u1.heap.size by rw [hu1]; exact HGA.out);rw [← hu1] at hHeld ⊢;clear hu1;refine pS_ 1 80 ?_;refine pS_ 2 81 ?_;refine tS_ 3 82 hHeld ?_;refine join_ (σ := Nat × Nat × Nat × Nat) 2 #[true, true, true, true, true, true, true, true, true, false, false] (fun q => [(79, .map (some q.1)), (83, Value.tuple #[.agg #[v0, vf q.2.1 q.2.2.1, .int .i64 fa_, .int .i64 fb_], .bool (isFmt f9)]), (78, Value.tuple #[.agg #[v0, vf q.2.1 q.2.2.1, .int .i64 fa_, .int .i64 fb_], .bool (isFmt f9)]), (84, .agg #[v0, vf q.2.1 q.2.2.1, .int .i64 fa_, .int .i64 fb_]), (85, .bool (isFmt f9)), (12, .pointer (some ⟨q.2.2.2, 0, none⟩))]) (fun q w' => w'.heap[q.2.2.2]? = some (.cells #[.nilFunc, .nilFunc, .int .i64 0, .int .i64 0] 49 (0, 0)) ∧ Below u1.heap.size u1 w' ∧ u1.heap.size ≤ q.2.2.2) ?hc2 (fun hcont => ?_);rotate_left
  ·
   refine two_ (i := 0) (j := 8) (Ni := some 79) (Nj := some 12) #[true, true, true, true, false, false, false, false, false, false, false] #[false, true, true, true, false, false, false, false, true, false, false] rfl rfl rfl rfl (by kernel_rfl) (by decide) (by decide) (fun K hK => ?_) (fun K hK => ?_)
   ·
    refine call_ 23 #[] (by rfl) rfl (by go_simp <;> rfl) ?_;refine (formats_calls _).mono ?_;rintro e V1 ⟨hb1, bm, m1, m2, hbm, rfl, hF1⟩;refine ⟨_, rfl, ?_⟩;have hK2 := hK.out;clear hK;have hH1 := (hb1.cell HGL.out).trans hHeld;refine hK2 _ _ hH1 (fun hHeldB => ?_);clear hK2;refine nS_ ?_;refine two_ (i := 4) (j := 8) (Ni := some 83) (Nj := some 12) #[true, true, true, true, true, false, false, false, false, false, false] #[true, true, true, true, false, false, false, false, true, false, false] rfl rfl rfl rfl (by kernel_rfl) (by decide) (by decide) (fun K hK => ?_) (fun K hK => ?_)
    ·
     refine value_ (w1 := V1) (v := .tuple #[.agg #[v0, vf m1 m2, .int .i64 fa_, .int .i64 fb_], .bool (isFmt f9)]) (by rfl) rfl (lookop_run rfl rfl rfl (HLK.out _ bm m1 m2 hF1)) ?_;refine hK.out _ _ hHeldB (fun hHeldC => ?_);clear hK K;refine nS_ ?_;refine pS_ 5 78 ?_;refine pS_ 6 84 ?_;refine pS_ 7 85 ?_;refine oS_ 8 12 (fun K hK => ?_);refine vS_ ?_;refine hK.out _ _ (cell_al _ hHeldC) (fun hHeldD => ?_);clear hK K;refine norm_ ?_ (hcont (bm, m1, m2, V1.heap.size) _ ⟨heap_alloc_new _ _, hb1.alloc hb1.size _, hb1.size⟩);simp only [putAll, Act.put, List.setIfInBounds_toArray, List.set_cons_zero, List.set_cons_succ, i64_w, i32_w]
    refine vS_ ?_;refine hK.out _ _ (cell_al _ hHeldB) (fun hHeldC => ?_);clear hK K;refine nS_ ?_;refine oS_ 4 83 (fun K hK => ?_);refine value_ (w1 := _) (v := .tuple #[.agg #[v0, vf m1 m2, .int .i64 fa_, .int .i64 fb_], .bool (isFmt f9)]) (by rfl) rfl (lookop_run rfl rfl rfl (HLK.out _ bm m1 m2 (hF1.below ((Below.refl _ V1).alloc (Nat.le_refl _) _)))) ?_;refine hK.out _ _ hHeldC (fun hHeldD => ?_);clear hK K;refine nS_ ?_;refine pS_ 5 78 ?_;refine pS_ 6 84 ?_;refine pS_ 7 85 ?_;refine norm_ ?_ (hcont (bm, m1, m2, V1.heap.size) _ ⟨heap_alloc_new _ _, hb1.alloc hb1.size _, hb1.size⟩);simp only [putAll, Act.put, List.setIfInBounds_toArray, List.set_cons_zero, List.set_cons_succ, i64_w, i32_w]
   refine vS_ ?_;refine hK.out _ _ (cell_al _ hHeld) (fun hHeldB => ?_);clear hK K;refine nS_ ?_;refine oS_ 0 79 (fun K hK => ?_);refine call_ 23 #[] (by rfl) rfl (by go_simp <;> rfl) ?_;refine (formats_calls _).mono ?_;rintro e V1 ⟨hb1, bm, m1, m2, hbm, rfl, hF1⟩;refine ⟨_, rfl, ?_⟩;have hK2 := hK.out;clear hK;have hb2 : Below u1.heap.size u1 V1 := ((Below.refl _ u1).alloc (Nat.le_refl _) _).trans (hb1.mono (by simp));have hH1 := (hb2.cell HGL.out).trans hHeld;refine hK2 _ _ hH1 (fun hHeldC => ?_);clear hK2;refine nS_ ?_;refine oS_ 4 83 (fun K hK => ?_);refine value_ (w1 := V1) (v := .tuple #[.agg #[v0, vf m1 m2, .int .i64 fa_, .int .i64 fb_], .bool (isFmt f9)]) (by rfl) rfl (lookop_run rfl rfl rfl (HLK.out _ bm m1 m2 hF1)) ?_;refine hK.out _ _ hHeldC (fun hHeldD => ?_);clear hK K;refine nS_ ?_;refine pS_ 5 78 ?_;refine pS_ 6 84 ?_;refine pS_ 7 85 ?_;refine norm_ ?_ (hcont (bm, m1, m2, u1.heap.size) _ ⟨(hb1.block _ (by simp)).trans (heap_alloc_new _ _), hb2, Nat.le_refl _⟩);simp only [putAll, Act.put, List.setIfInBounds_toArray, List.set_cons_zero, List.set_cons_succ, i64_w, i32_w]
  rintro ⟨bm, m1, m2, F9⟩ V1 ⟨hF9, hb1, hge⟩;dsimp only at hF9 hge
  refine norm_ (a' := ?_) ?_ ?_;rotate_left
  ·
   simp only [putAll, Act.put, List.setIfInBounds_toArray, List.set_cons_zero, List.set_cons_succ, i64_w, i32_w];rfl
  refine oN_ 9 (fun K hK => ?_);refine skip_ (w1 := (((V1.setCell ⟨F9, 0, none⟩ v0).setCell ⟨F9, 1, none⟩ (vf m1 m2)).setCell ⟨F9, 2, none⟩ (.int .i64 fa_)).setCell ⟨F9, 3, none⟩ (.int .i64 fb_)) (by rfl) rfl ?_ ?_
  · exact store4_run v0 (vf m1 m2) fa_ fb_ HO0.out (HO1.out m1 m2) rfl rfl rfl hF9
  have hb2 : Below u1.heap.size u1 ((((V1.setCell ⟨F9, 0, none⟩ v0).setCell ⟨F9, 1, none⟩ (vf m1 m2)).setCell ⟨F9, 2, none⟩ (.int .i64 fa_)).setCell ⟨F9, 3, none⟩ (.int .i64 fb_)) := (((hb1.setCell hge _).setCell hge _).setCell hge _).setCell hge _;refine hK.out _ _ ((hb2.cell HGL.out).trans hHeld) (fun hHeld2 => ?_);clear hK K;refine pS_ 10 13 ?_;refine dS_ ?_;obtain ⟨U3, hU3⟩ : ∃ U3, U3 = (((V1.setCell ⟨F9, 0, none⟩ v0).setCell ⟨F9, 1, none⟩ (vf m1 m2)).setCell ⟨F9, 2, none⟩ (.int .i64 fa_)).setCell ⟨F9, 3, none⟩ (.int .i64 fb_) := ⟨_, rfl⟩;rw [← hU3] at hb2 ⊢;have hb3 : Below U2.heap.size U2 U3 := HU1.out.trans (hb2.mono (by rw [HZ1.out]; exact Nat.le_refl _));have HB3_ := hI (HB2.out.trans (hb3.mono HB2.out.size));have HF3 := hI ((hb3.block F (blk_lt HF2.out)).trans HF2.out);clear hU3 hF9 hb1 hge hb2 hb3 hHeld hHeld2 HU1 HZ1 HGL HF2;cases hfm : isFmt f9 with
  | false =>
   have HM0 := hI (show mayM s ⟨bp, fc⟩ = false by rw [HMAY.out, hfm]);clear hfm;gi_wp2
   exact HSKIP.out _ HB3_.out HM0.out
  | true =>
   have HM0 := hI (show mayM s ⟨bp, fc⟩ = true by rw [HMAY.out, hfm]);obtain ⟨xs, hxs⟩ : ∃ xs, xs = (pre.map (fun x => entX X x.1)).filter (mayM s) := ⟨_, rfl⟩;have HXL2 := hI (show xs.length ≤ 64 by rw [hxs]; have := may_len s X pre; have := HPL.out; have := HM.out.2; omega);rw [← hxs] at HV;have HVU := hI (HV.out.below HKS.out HB3_.out);have HSN := hI (show ((pre ++ [x]).map (fun x => entX X x.1)).filter (mayM s) = xs ++ [⟨bp, fc⟩] by rw [may_snoc, HPM.out, HM0.out, if_pos rfl, hxs]);have cv := HVU.out.c;have z0 : U3.cell? ⟨F, 0, none⟩ = some (.int .i64 bp) := (blk_cell HF3.out 0).trans rfl;have z1 : U3.cell? ⟨F, 1, none⟩ = some (.int .i64 fc) := (blk_cell HF3.out 1).trans rfl;obtain ⟨Av, kv, rfl⟩ := Kd.R_slice HVU.out.r;clear hfm hxs;gi_wp2_with (gi_at_builtin; go_loud (refine append_in (by kernel_rfl) (by rfl) (?_ : if _ then _ else _); refine Kd.R_append_step k47 (w0 := w3_) w3_.heap.size (by rfl) (.tmp 87) (.tmp 89) 39 44 (.agg #[(.int .i64 0), (.int .i64 0)]) 16 rfl Tryz.underlying39 infoE rfl (by decide) (by decide) _ xs ⟨bp, fc⟩ [.int .i64 bp, .int .i64 fc] (fun k => w5.heap.size ≤ k) (fun _ => False) rfl rfl (k47_mkM _ _ _ ⟨bp, fc⟩) (fun _ hk => hk.elim) (fun k hk => Nat.le_trans HVU.out.hS hk) HVU.out.r HVU.out.hB HVU.out.hB.size (ent_bytes HXL2.out) ?_))
   intro v1 u2 ho hb hg hat;obtain ⟨A1, k1, rfl⟩ := Kd.R_slice ho;have eL : (xs ++ [(⟨bp, fc⟩ : S47)]).length = xs.length + 1 := by simp
   rw [eL] at ho hat ⊢;obtain ⟨c1, zz, G1, G2, G3⟩ := HVU.out.grew HWB.out HB3.out HKS.out HNK.out ho hb hg;have HG1 := hI G1;have HG2 := hI (show KeepsB [w3_.heap.size + 1, w3_.heap.size + 1 + 1, gx, w.heap.size] W _ from fun k hk => (G2 k hk).trans (HB3_.out.block k (Nat.lt_of_lt_of_le (HKS.out k hk) HV.out.hS)));have HG3 := hI (show KeepsFrom w5.heap.size W _ from RowM.keepsFrom HB3.out (fun k o hk ho hn => G3 k o ((HB3_.out.block k (Array.getElem?_eq_some_iff.1 hk).1).trans hk) ho hn) (Nat.le_trans HB3_.out.size (by have := hg.size; simpa using this)));clear ho hb hg hat G1 G2 G3 cv z0 z1 eL;gi_wp2
   exact ⟨HG3.out, HG2.out, _, by rw [HSN.out]; exact HG1.out⟩
 case done =>
  rintro D ys W hD rfl ⟨v, hv⟩ hdef;have htr := recs_told s m X HX.out;rw [htr] at hv;have hen : ((List.range m).map (entM s)).filter (mayM s) = entsM s m := rfl;rw [hen] at hv;obtain ⟨xs, hxs⟩ : ∃ xs, xs = entsM s m := ⟨_, rfl⟩;rw [← hxs] at hv HRES
  have hxl : xs.length ≤ 64 := by
   rw [hxs];unfold entsM;refine Nat.le_trans (List.length_filter_le _ _) ?_;rw [List.length_map, List.length_range];exact HM.out.2
  obtain ⟨A7, k7, hA7⟩ := Kd.R_slice hv.r;subst hA7;obtain ⟨_, _, e0, hk7, C7⟩ := Kd.R_reads hv.r;injection e0 with e5 e6 e7
  subst e5;subst e7;have cB := hv.c;have cS := (hv.hK.cell (p := ⟨w.heap.size, 0, none⟩) (by simp)).trans HU5.out;have HV := hI (B3.out.trans (hv.hB.mono B3.out.size));have HD := hI hD;have HDEF := hI hdef;have hP := pick_walk A7 k7 xs W C7 hk7 (by omega);obtain ⟨⟨b0, b1⟩, bb, hbe⟩ : ∃ x b, bestS xs = (x, b) := ⟨_, _, rfl⟩;rw [hbe] at hP HRES;have HBE := hI (show bestS (entsM s m) = (⟨b0, b1⟩, bb) by rw [← hxs]; exact hbe);clear hD hdef hv htr hen hxs hxl C7 hk7 e6 hbe;go_wp2_with fail
  refine hP.mono ?_;clear hP;rintro x W2 ⟨rfl, hb⟩;have cS2 := kM hb cS;have HW2 := hI (show Below W.heap.size W (W2.alloc (.cells #[.int .i64 b0, .int .i64 b1] 44)) from hb.alloc hb.size _);have HCS2 := hI (cell_al (.cells #[.int .i64 b0, .int .i64 b1] 44) cS2);clear hb cB cS cS2;cases bb with
  | false =>
   have hres : r = ([], 6) := HRES.out.symm;have HRE := hI hres;obtain ⟨f1, f2, f3⟩ := cget_final (v := .slice none 0 0) (xs := []) (Kd.R_nil _ _ _ _ _) HV.out HW2.out HDEF.out (by have := HD.out; have := HT5.out; have := B3.out.size; omega);have HF1 := hI f1;have HF2 := hI f2;have HF3 := hI f3;clear f1 f2 f3 hres;go_wp2;refine ⟨by simp, .inl ⟨_, _, rfl, run_takeDeferred HF3.out, ?_⟩⟩;refine ⟨_, results_tmp2 rfl _ _ _, ?_⟩;rw [HRE.out];exact ⟨_, rfl, HF1.out, HF2.out⟩
  | true =>
   have hres : readM (s.extract b1.toNat s.size) = r := HRES.out;obtain ⟨p0, p1⟩ := best_at HBE.out;obtain ⟨at_, hat⟩ := Int.eq_ofNat_of_zero_le p0;dsimp only at hat p1
   subst hat;rw [Int.toNat_natCast] at hres p1;have hle := eq_true (show at_ ≤ s.size by omega);obtain ⟨L, e, hL⟩ : ∃ L e, readM (s.extract at_ s.size) = (L, e) := ⟨_, _, rfl⟩;rw [hL] at hres;have HRE := hI hres;have HL := hI hL;clear hres p0 p1 hL;have hcs2 := HCS2.out;go_wp2_with fail
   refine (cmap_Read.calls (s.extract at_ s.size) L e _ (by unfold cmap_Read.f; rw [HL.out])).mono ?_;rintro x W4 ⟨v, rfl, hr4, hb4⟩;obtain ⟨A8, k8, rfl⟩ := Kd.R_slice hr4;obtain ⟨f1, f2, f3⟩ := cget_final (Kd.R_lower hr4 (Nat.le_trans HV.out.size HW2.out.size)) HV.out (HW2.out.trans (hb4.mono HW2.out.size)) HDEF.out (by have := HD.out; have := HT5.out; have := B3.out.size; omega);have HF1 := hI f1;have HF2 := hI f2;have HF3 := hI f3;clear hr4 hb4 f1 f2 f3 hcs2 hle;go_wp2;refine ⟨by simp, .inl ⟨_, _, rfl, run_takeDeferred HF3.out, ?_⟩⟩;refine ⟨_, results_tmp2 rfl _ _ _, ?_⟩;rw [← HRE.out];exact ⟨_, rfl, HF1.out, HF2.out⟩
def cmap_Get.f (a0 : ByteArray) : Option (List S61 × Int) := some (getM a0)
theorem cmap_Get.calls (a0 : ByteArray) (r1 : List S61) (r2 : Int) (w : World) (h : cmap_Get.f a0 = some (r1, r2)) :
  Calls Tryz.prog 5 #[.string a0] w fun e w' => ∃ v0_ : Value, e = .returned (.tuple #[v0_, .int .i64 r2]) ∧ Kd.R k61 61 w' w.heap.size (fun _ => True) v0_ r1 ∧ Below w.heap.size w w' := by
 have hr : getM a0 = (r1, r2) := Option.some.inj h;by_cases h4 : a0.size < 4
 ·
  have he : getM a0 = ([], 4) := by unfold getM; rw [if_pos h4]
  rw [he] at hr;obtain ⟨rfl, rfl⟩ := Prod.mk.inj hr;exact cget_short a0 w h4
 have h4 : 4 ≤ a0.size := by omega
 by_cases h0 : w2 a0 0 = 0
 case neg => exact cget_form a0 w h4 h0 (r1, r2) (by rw [← hr, getM_form h4 h0])
 by_cases hl : 64 < w2 a0 2
 · exact cget_long a0 w h4 h0 hl (r1, r2) (by rw [← hr, getM_long h4 h0 hl])
 obtain ⟨m, hm⟩ := Int.eq_ofNat_of_zero_le (w2_bd a0 2).1;exact cget_main a0 w h4 h0 m hm (by omega) (r1, r2) hr
end Go.Proofs.YtejdflndgnpkcaaGreat.P
end
section
namespace Go.Proofs.YtejdflndgnpkcaaGreat.P
open Go.RowKit PW PL PM
def formM (l : List S61) (n : Int) : ByteArray × Int := if n = 0 then smallN l else if n = 4 then putS l else if n = 6 then trimN l else putG l n
def kindP (n : Int) : Int := if n = 0 then 1 else 3
def kindE (n : Int) : Int := if n = 0 then 0 else if n = 4 ∨ n = 6 then 1 else 10
theorem isFmt_iff (n : Int) : isFmt n = true ↔ (n = 0 ∨ n = 4 ∨ n = 6 ∨ n = 12 ∨ n = 13) := by unfold isFmt; exact decide_eq_true_iff
theorem putM_not {l : List S61} {n : Int} (h : isFmt n = false) : putM l n = (⟨#[]⟩, 1) := by
 have h := of_decide_eq_false h;unfold putM;rw [if_neg (by omega), if_neg (by omega), if_neg (by omega), if_neg (by omega), if_neg (by omega)]
theorem putM_form {l : List S61} {n : Int} (h : isFmt n = true) : putM l n = wrapC (kindP n) (kindE n) (formM l n) := by
 rcases (isFmt_iff n).1 h with rfl | rfl | rfl | rfl | rfl <;> simp [putM, kindP, kindE, formM]
theorem kind_bd (n : Int) : 0 ≤ kindP n ∧ kindP n ≤ 65535 ∧ 0 ≤ kindE n ∧ kindE n ≤ 65535 := by
 unfold kindP kindE;split
 · omega
 split <;> omega
theorem kind_good {n : Int} (h : isFmt n = true) : bestP (kindP n) (kindE n) ≠ 0 := by
 rcases (isFmt_iff n).1 h with rfl | rfl | rfl | rfl | rfl <;> decide
theorem ext_all (t : ByteArray) : t.extract 0 t.size = t := by
 have h := ba_drop [] t.data.toList;rw [List.nil_append, ba_of] at h;exact h
theorem w2_in (s : ByteArray) (p : Nat) (h : p ≤ s.size) : w2 (s.extract p s.size) 0 = w2 s p := by
 unfold w2;rw [ext_all]
theorem small_good {l : List S61} (h : (smallN l).2 = 0) : ∃ M, isL l = true ∧ (smallN l).1.size = 262 ∧ w2 (smallN l).1 0 = 0 ∧ getC (smallN l).1 = (M, 0) ∧ isL M = true ∧ ∀ c, lookN M c = lookN l c := by
 unfold smallN at h ⊢;by_cases h1 : isL l = false
 · rw [if_pos h1] at h; exact absurd (show (1 : Int) = 0 from h) (by decide)
 have hi : isL l = true := by cases hh : isL l with | true => rfl | false => exact absurd hh h1
 rw [if_neg h1] at h ⊢;by_cases hb : 256 ≤ (endsN l).2.1
 · rw [if_pos hb] at h; exact absurd (show (7 : Int) = 0 from h) (by decide)
 rw [if_neg hb] at h ⊢;by_cases hok : smallOk l = true
 case neg => rw [if_neg hok] at h; exact absurd (show (7 : Int) = 0 from h) (by decide)
 rw [if_pos hok];have hg := looks_bd hi 0 256;simp only [Int.zero_add] at hg;have hM : isL (spansN 0 ((List.range 256).map (fun c : Nat => lookN l (c : Int)))) = true := spans_isL (by decide) (by simp) hg;refine ⟨_, hi, by rw [ba_size, smallB_length], ?_, small_get hi hok, hM, fun c => ?_⟩
 ·
  have := w2_at [] 0 ([1, 6, 0, 0] ++ (List.range 256).map (byteG l)) (by omega) (by omega) 0 rfl;exact this
 have := small_back hi (by omega) c hg;unfold glyphOf at this;rwa [hM, if_pos rfl] at this
theorem trim_good {l : List S61} (h : (trimN l).2 = 0) : ∃ M, isL l = true ∧ 10 ≤ (trimN l).1.size ∧ w2 (trimN l).1 0 = 6 ∧ getC (trimN l).1 = (M, 0) ∧ isL M = true ∧ ∀ c, lookN M c = lookN l c := by
 unfold trimN at h ⊢;by_cases h1 : isL l = false
 · rw [if_pos h1] at h; exact absurd (show (1 : Int) = 0 from h) (by decide)
 have hi : isL l = true := by cases hh : isL l with | true => rfl | false => exact absurd hh h1
 rw [if_neg h1] at h ⊢;obtain ⟨_, i1, i2⟩ := isL_all hi
 have hw : ∀ (a : Int) (m : Int) (g : List UInt8), w2 ⟨(headT a m ++ g).toArray⟩ 0 = 6 := fun a m g => by
  have := w2_at [] 6 (bytesN (10 + 2 * m) 2 ++ (bytesN 0 2 ++ (bytesN a 2 ++ (bytesN m 2 ++ []))) ++ g) (by omega) (by omega) 0 rfl;simpa only [headT, List.nil_append, List.append_assoc] using this
 have hz : ∀ (a : Int) (m : Int) (g : List UInt8), 10 ≤ (⟨(headT a m ++ g).toArray⟩ : ByteArray).size := fun a m g => by
  rw [ba_size, List.length_append, headT_length]; omega
 rcases ends_in l i1 i2 with ⟨h3, _⟩ | ⟨a, b, h3, h4, h5, h6⟩
 ·
  have ht := trim_get hi (a := 0) (m := 0) (by decide) (by decide) (by decide) (by decide) [];rw [List.append_nil] at ht;rw [h3] at h ⊢;simp only at h ⊢;have hm0 : manyT 0 0 false = 0 := rfl;rw [hm0] at h ⊢;rw [if_neg (show ¬ ((65535 : Int) < 0 ∨ (32762 : Int) < 0) by decide)];have e0 : (0 : Int).toNat = 0 := rfl;simp only;rw [e0];have ht' : getC ⟨(headT 0 0 ++ glyphsT l 0 0).toArray⟩ = (([] : List S61), 0) := ht;refine ⟨[], hi, hz _ _ _, hw _ _ _, ht', by decide, fun c => ?_⟩;rw [trim_none hi (by rw [h3]) c];rfl
 rw [h3] at h ⊢;simp only at h ⊢;have hmt : manyT a b true = b - a + 1 := by unfold manyT; rw [if_pos rfl]
 rw [hmt] at h ⊢;by_cases hb : 65535 < b ∨ 32762 < b - a + 1
 · rw [if_pos hb] at h; exact absurd (show (7 : Int) = 0 from h) (by decide)
 rw [if_neg hb];simp only;obtain ⟨m, hm⟩ := Int.eq_ofNat_of_zero_le (show 0 ≤ b - a + 1 by omega);rw [hm, Int.toNat_natCast];have ht := trim_get hi (a := a) (m := m) h4 (by omega) (by omega) (by omega) [];rw [List.append_nil] at ht;have hM : isL (spansN a ((List.range m).map (fun i : Nat => lookN l (a + (i : Int))))) = true := spans_isL h4 (by simp; omega) (looks_bd hi a m);refine ⟨_, hi, hz _ _ _, hw _ _ _, ht, hM, fun c => ?_⟩;have := trim_back hi h3 h4 m hm.symm (by omega) c;unfold glyphOf at this;rwa [hM, if_pos rfl] at this
theorem seg_good {l : List S61} (h : (putS l).2 = 0) : ∃ M, isL l = true ∧ 16 ≤ (putS l).1.size ∧ w2 (putS l).1 0 = 4 ∧ getS (putS l).1 = (M, 0) ∧ isL M = true ∧ ∀ c, lookN M c = lookN l c := by
 obtain ⟨L, k, hs, hp⟩ := putS_ok h;obtain ⟨hi, _, hk, _, hg⟩ := segP_good hs;obtain ⟨h1, h2⟩ := segX_good hs;have hget := get_out hg [];rw [List.append_nil] at hget;refine ⟨_, hi, by rw [hp, ba_size, bytesS_length, out_length]; omega, ?_, by rw [hp]; exact hget, h1, h2⟩;rw [hp];have hq := w2_q (outS L (cntR L)) [] (out_fits hg) 0 4 (by rfl);rw [List.append_nil] at hq;exact hq
theorem group_good {l : List S61} {f : Int} (hf : f = 12 ∨ f = 13) (h : (putG l f).2 = 0) : ∃ M, isL l = true ∧ 16 ≤ (putG l f).1.size ∧ (putG l f).1.size ≤ 800000 ∧ (∀ m : ByteArray, w2 ((putG l f).1 ++ m) 0 = f ∧ getG ((putG l f).1 ++ m) = (M, 0)) ∧ isL M = true ∧ ∀ c, lookN M c = lookN l c := by
 unfold putG at h ⊢;have h1 : ¬ (f ≠ 12 ∧ f ≠ 13) := by omega
 rw [if_neg h1] at h ⊢;by_cases h2 : (splitN l (13 - f)).2 ≠ 0
 · rw [if_pos h2] at h; exact absurd h h2
 rw [if_neg h2];have h3 : (splitN l (13 - f)).2 = 0 := Decidable.of_not_not h2;obtain ⟨L, hs⟩ : ∃ L, splitN l (13 - f) = (L, 0) := ⟨(splitN l (13 - f)).1, by rw [← h3]⟩;obtain ⟨hi, hst, hL, hstep, hlk⟩ := split_good hs;have hlen := (isL_all hL).1;rw [hs];simp only
 have hsz : (⟨(headB f (L.length : Int) ++ spansB L).toArray⟩ : ByteArray).size = 16 + 12 * L.length := by
  rw [ba_size, List.length_append, headB_length, spansB_length]
 refine ⟨L, hi, by omega, by omega, fun m => ?_, hL, hlk⟩;rw [ba_more];refine ⟨?_, get_putG hL hf hstep _⟩;have := w2_at [] f (bytesN 0 2 ++ (bytesN (16 + 12 * (L.length : Int)) 4 ++ (bytesN 0 4 ++ (bytesN (L.length : Int) 4 ++ []))) ++ spansB L ++ m.data.toList) (by omega) (by omega) 0 rfl;simpa only [headB, List.nil_append, List.append_assoc] using this
structure Back (l : List S61) (t : ByteArray) (n : Int) (M : List S61) : Prop where
 z : 2 ≤ t.size
 w : w2 t 0 = n
 g : readM t = (M, 0)
 i : isL l = true
 j : isL M = true
 k : ∀ c, lookN M c = lookN l c
theorem app_nil (t : ByteArray) : t ++ (⟨#[]⟩ : ByteArray) = t := by
 apply ByteArray.ext
 simp
theorem form_back {l : List S61} {n : Int} (hf : isFmt n = true) (h : (formM l n).2 = 0) : ∃ M, Back l (formM l n).1 n M := by
 rcases (isFmt_iff n).1 hf with rfl | rfl | rfl | hh
 ·
  have e : formM l 0 = smallN l := by simp [formM]
  rw [e] at h ⊢;obtain ⟨M, h1, h2, h3, h4, h5, h6⟩ := small_good h;exact ⟨M, by omega, h3, by unfold readM; rw [if_neg (by omega), if_pos (.inl h3)]; exact h4, h1, h5, h6⟩
 ·
  have e : formM l 4 = putS l := by simp [formM]
  rw [e] at h ⊢;obtain ⟨M, h1, h2, h3, h4, h5, h6⟩ := seg_good h;exact ⟨M, by omega, h3, by unfold readM; rw [if_neg (by omega), if_neg (by omega), if_pos h3]; exact h4, h1, h5, h6⟩
 ·
  have e : formM l 6 = trimN l := by simp [formM]
  rw [e] at h ⊢;obtain ⟨M, h1, h2, h3, h4, h5, h6⟩ := trim_good h;exact ⟨M, by omega, h3, by unfold readM; rw [if_neg (by omega), if_pos (.inr h3)]; exact h4, h1, h5, h6⟩
 have e : formM l n = putG l n := by unfold formM; rw [if_neg (by omega), if_neg (by omega), if_neg (by omega)]
 rw [e] at h ⊢;obtain ⟨M, h1, h2, _, h4, h5, h6⟩ := group_good hh h;have h4 := h4 ⟨#[]⟩;rw [app_nil] at h4;exact ⟨M, by omega, h4.1, by unfold readM; rw [if_neg (by omega), if_neg (by omega), if_neg (by omega), if_pos (by omega)]; exact h4.2, h1, h5, h6⟩
theorem bestP_bd (p q : Int) : 0 ≤ bestP p q ∧ bestP p q ≤ 9 := by
 unfold bestP;repeat' split
 all_goals omega
theorem one_rec {a b : Int} (ha : 0 ≤ a ∧ a ≤ 65535) (hb : 0 ≤ b ∧ b ≤ 65535) (hg : bestP a b ≠ 0) (t : ByteArray) (ht : 2 ≤ t.size) (hf : isFmt (w2 t 0) = true) : getM ((⟨(headC a b).toArray⟩ : ByteArray) ++ t) = readM t := by
 obtain ⟨s, hs⟩ : ∃ s, s = (⟨(headC a b).toArray⟩ : ByteArray) ++ t := ⟨_, rfl⟩;rw [← hs];have hs2 : s = ⟨(headC a b ++ t.data.toList).toArray⟩ := by rw [hs, ba_more]
 have hsz : s.size = 12 + t.size := by rw [hs, ByteArray.size_append, ba_size, headC_length]
 have e0 : w2 s 0 = 0 := by
  rw [hs2];have := w2_at [] 0 (bytesN 1 2 ++ (bytesN a 2 ++ (bytesN b 2 ++ (bytesN 12 4 ++ []))) ++ t.data.toList) (by omega) (by omega) 0 rfl;simpa only [headC, List.nil_append, List.append_assoc] using this
 have e2 : w2 s 2 = 1 := by
  rw [hs2];have := w2_at (bytesN 0 2) 1 (bytesN a 2 ++ (bytesN b 2 ++ (bytesN 12 4 ++ [])) ++ t.data.toList) (by omega) (by omega) 2 (by rw [bytesN_length]);simpa only [headC, List.append_assoc] using this
 have e4 : w2 s 4 = a := by
  rw [hs2];have := w2_at (bytesN 0 2 ++ bytesN 1 2) a (bytesN b 2 ++ (bytesN 12 4 ++ []) ++ t.data.toList) (by omega) (by omega) 4 (by simp [bytesN_length]);simpa only [headC, List.append_assoc] using this
 have e6 : w2 s 6 = b := by
  rw [hs2];have := w2_at (bytesN 0 2 ++ (bytesN 1 2 ++ bytesN a 2)) b (bytesN 12 4 ++ [] ++ t.data.toList) (by omega) (by omega) 6 (by simp [bytesN_length]);simpa only [headC, List.append_assoc] using this
 have e8 : w4 s 8 = 12 := by
  rw [hs2];have := w4_at (bytesN 0 2 ++ (bytesN 1 2 ++ (bytesN a 2 ++ bytesN b 2))) 12 ([] ++ t.data.toList) (by omega) (by omega) 8 (by simp [bytesN_length]);simpa only [headC, List.append_assoc] using this
 have hx : s.extract 12 s.size = t := by
  rw [hs2];have := ba_drop (headC a b) t.data.toList;rw [headC_length] at this;rw [this]
 have hw : w2 s 12 = w2 t 0 := by rw [← w2_in s 12 (by omega), hx]
 have hen : entM s 0 = ⟨bestP a b, 12⟩ := by
  unfold entM;show (⟨bestP (w2 s 4) (w2 s 6), w4 s 8⟩ : S47) = _
  rw [e4, e6, e8]
 have hmay : mayM s ⟨bestP a b, 12⟩ = true := by
  unfold mayM;have e12 : (12 : Int).toNat = 12 := rfl;rw [decide_eq_true hg, e12, decide_eq_true (by omega), hw, hf];rfl
 have hents : entsM s 1 = [⟨bestP a b, 12⟩] := by
  rw [entsM_succ, hen, if_pos hmay];rfl
 unfold getM;have e1 : (1 : Int).toNat = 1 := rfl;rw [if_neg (by omega), e0, e2, if_neg (by decide), if_neg (by decide), if_neg (by omega), e1, hents];show (if true = false then _ else readM (s.extract 12 s.size)) = _
 rw [if_neg (by decide), hx]
theorem put_back {l : List S61} {n : Int} (h : (putM l n).2 = 0) : ∃ M, isFmt n = true ∧ (formM l n).2 = 0 ∧ Back l (formM l n).1 n M ∧ (putM l n).1.size = 12 + (formM l n).1.size ∧ getM (putM l n).1 = (M, 0) ∧ (putM l n).1.extract 12 (putM l n).1.size = (formM l n).1 := by
 by_cases hf : isFmt n = true
 case neg => rw [putM_not (by cases hh : isFmt n with | true => exact absurd hh hf | false => rfl)] at h; exact absurd (show (1 : Int) = 0 from h) (by decide)
 rw [putM_form hf] at h ⊢;unfold wrapC at h ⊢;by_cases h0 : (formM l n).2 ≠ 0
 · rw [if_pos h0] at h; exact absurd h h0
 rw [if_neg h0];have h0 : (formM l n).2 = 0 := Decidable.of_not_not h0;obtain ⟨M, hB⟩ := form_back hf h0;obtain ⟨b1, b2, b3, b4⟩ := kind_bd n;refine ⟨M, hf, h0, hB, by show (_ ++ _ : ByteArray).size = _; rw [ByteArray.size_append, ba_size, headC_length], ?_, ?_⟩
 ·
  show getM (_ ++ _) = _
  rw [one_rec ⟨b1, b2⟩ ⟨b3, b4⟩ (kind_good hf) _ hB.z (by rw [hB.w]; exact hf), hB.g]
 show ByteArray.extract (_ ++ _) 12 (ByteArray.size (_ ++ _)) = _
 rw [ba_more];have := ba_drop (headC (kindP n) (kindE n)) (formM l n).1.data.toList;rw [headC_length] at this;rw [this]
end Go.Proofs.YtejdflndgnpkcaaGreat.P
end
