/- Words, contracts and plain facts of the proof. Each says its own condition. -/
import Derived.Test.YtejdflndgnpkcaaZCmapFormatsaa
import Derived.Laws.ResultCell
import Derived.Test.YtejdflndgnpkcaaZCmapFormatse
import Derived.Test.YtejdflndgnpkcaaZCmapFormatso
import Derived.Test.YtejdflndgnpkcaaZCmapFormatsq
import Derived.Test.YtejdflndgnpkcaaZCmapFormatss
import Derived.Test.YtejdflndgnpkcaaZCmapFormatsp
import Derived.Test.YtejdflndgnpkcaaZCmapFormatsn
import Derived.Test.YtejdflndgnpkcaaZCmapFormatsh
import Derived.Test.YtejdflndgnpkcaaZCmapFormatsu
set_option linter.unusedVariables false
set_option linter.unusedSimpArgs false
section
namespace Go.Proofs.Ytejdflndgnpkcaa.P
open Go.RowKit Go.Proofs.YtejdflndgnpkcaaW.PrintWords Go.Proofs.YtejdflndgnpkcaaW.PrintLast Go.Proofs.YtejdflndgnpkcaaW.PrintMore
theorem results_cell_tmp_row {fn : Func} {p u : Tmp} {ty : TypeId} (h : fn.results = #[.cell p ty, .tmp u]) (tmps : Array Value) (w : World) (g : Nat) (v : Value)
  (hl : (loadVar ty ⟨g, 0, none⟩).run Try.prog w = .ok v w) (hp : tmps.getD p undef = .pointer (some ⟨g, 0, none⟩)) :
  (results fn tmps).run Try.prog w = .ok (.tuple #[v, tmps.getD u undef]) w := by
 have hp' : tmps[p]?.getD undef = .pointer (some ⟨g, 0, none⟩) := by simpa using hp
 rw [results_cell_tmp h]
 simp [hp', asAddr, hl, Result.andThen]
def pickS (o : S41 × Bool) (x : S41) : S41 × Bool := if o.2 = false ∨ o.1.f0 < x.f0 then (x, true) else o
def bestS (l : List S41) : S41 × Bool := l.foldl pickS (⟨0, 0⟩, false)
def atK (l : List S41) (i : Nat) : S41 := l.getD i ⟨0, 0⟩
theorem bestS_succ (l : List S41) (i : Nat) (h : i < l.length) : bestS (l.take (i + 1)) = pickS (bestS (l.take i)) (atK l i) := by
 unfold bestS atK
 rw [List.take_add_one, List.getElem?_eq_getElem h, List.foldl_append]
 simp [List.getD_eq_getElem?_getD, List.getElem?_eq_getElem h]
theorem rd_atK (l : List S41) (i : Nat) : rd_T41 l (i : Int) = atK l i := rfl
theorem keep4 {W U : World} (hb : Below W.heap.size W U) {p q : Nat} {v0 v1 v2 v3 : Value} (h0 : W.cell? ⟨p, 0, none⟩ = some v0) (h1 : W.cell? ⟨p, 1, none⟩ = some v1) (h2 : W.cell? ⟨q, 0, none⟩ = some v2) (h3 : W.cell? ⟨q, 1, none⟩ = some v3) :
  U.cell? ⟨p, 0, none⟩ = some v0 ∧ U.cell? ⟨p, 1, none⟩ = some v1 ∧ U.cell? ⟨q, 0, none⟩ = some v2 ∧ U.cell? ⟨q, 1, none⟩ = some v3 :=
 ⟨(hb.cell (World.block_lt_of_cell? _ _ h0)).trans h0, (hb.cell (World.block_lt_of_cell? _ _ h1)).trans h1, (hb.cell (World.block_lt_of_cell? _ _ h2)).trans h2, (hb.cell (World.block_lt_of_cell? _ _ h3)).trans h3⟩
structure PickW (w W : World) (a b : Int) : Prop where
 h : Below w.heap.size w W
 r : W.heap[w.heap.size]? = some (.cells #[.int .i64 0, .int .i64 0] 59 (0, 0))
 c : W.heap[w.heap.size + 1]? = some (.cells #[.int .i64 a, .int .i64 b] 59 (0, 0))
theorem PickW.below {w W U : World} {a b : Int} (h : PickW w W a b) (hb : Below W.heap.size W U) : PickW w U a b :=
 ⟨below_then h.h h.h.size hb, (hb.block _ (blk_lt h.r)).trans h.r, (hb.block _ (blk_lt h.c)).trans h.c⟩
set_option maxRecDepth 100000 in
set_option maxHeartbeats 4000000 in
theorem pick_walk (A0 : Option Addr) (c0 : Nat) (l : List S41) (w : World) (hr0 : Kd.C k41 w A0 l.length l) (hc0 : l.length ≤ c0) (hl : l.length ≤ 100000) :
    Calls Try.prog 25 #[.slice A0 l.length c0, .func (.func 26) #[] #[]] w fun e w' => e = .returned (.tuple #[.agg #[.int .i64 (bestS l).1.f0, .int .i64 (bestS l).1.f1], .bool (bestS l).2]) ∧ Below w.heap.size w w' := by
  have hz := (zero_of_info (P := Try.prog) (t := 59) (v := .agg #[.int .i64 0, .int .i64 0]) (n := 2) (by kernel_rfl)).1
  have hu := Try.underlying59
  have he : EntersK 26 := entersK_of Try.func26 (by kernel_rfl) (by kernel_rfl)
  unfold EntersK at he
  have HC := Lib.hid hr0
  obtain ⟨n, hn⟩ : ∃ n, n = l.length := ⟨_, rfl⟩
  have HN := Lib.hid hn
  have HN2 := Lib.hid (show n ≤ 100000 by rw [hn]; exact hl)
  rw [← hn]
  clear hr0 hc0 hl hn
  go_enter Try.func25, Try.ntmps25
  go_wp2_with fail
  have HP0 := Lib.hid (show PickW w ((w.alloc (.cells #[.int .i64 0, .int .i64 0] 59)).alloc (.cells #[.int .i64 0, .int .i64 0] 59)) 0 0 from ⟨((Below.refl _ _).alloc (Nat.le_refl _) _).alloc (by simp) _, heap_alloc2_old _ _ _, heap_alloc2_new _ _ _⟩)
  go_loopw [12, 7] (fun v12 v7 wr => ∃ (i : Nat) (a b : Int) (is : Bool), i ≤ n ∧ bestS (l.take i) = (⟨a, b⟩, is) ∧ v12 = .int .i64 (i : Int) ∧ v7 = .bool is ∧ Aside0 (PickW w wr a b)) (fun v12 _ _ => n - (intOf v12).toNat)
  case atStart => exact ⟨0, 0, 0, false, Nat.zero_le _, rfl, rfl, rfl, ⟨HP0.out⟩⟩
  case round =>
    obtain ⟨i, a, b, is, hi, hbest, rfl, rfl, HW⟩ := hrel
    by_cases hlt : i < n
    · have p0 : (0 : Int) ≤ (i : Int) := by omega
      have p1 : (i : Int) < (n : Int) := by omega
      have d3 : decide ((i : Int) < (n : Int)) = true := decide_eq_true p1
      have hwi : wrap64 ((i : Int) + 1) = ((i + 1 : Nat) : Int) := by have := HN2.out; unfold wrap64; omega
      have hil : i < l.length := by rw [← HN.out]; exact hlt
      obtain ⟨ad, rfl, x0, x1⟩ := at_T41 HC.out (i : Int) p0 (by have := HN.out; omega)
      rw [rd_atK] at x0 x1
      have hsu := bestS_succ l i hil
      rw [hbest] at hsu
      obtain ⟨x, hx⟩ : ∃ x, x = atK l i := ⟨_, rfl⟩
      rw [← hx] at x0 x1 hsu
      rw [Int.toNat_natCast] at x0 x1
      replace x0 := (HW.out.h.cell (World.block_lt_of_cell? _ _ x0)).trans x0
      replace x1 := (HW.out.h.cell (World.block_lt_of_cell? _ _ x1)).trans x1
      have HSU := Lib.hid hsu
      have HLT := Lib.hid hlt
      clear hx hsu hil hlt hi hbest
      replace p0 := eq_true p0
      replace p1 := eq_true p1
      go_wp2_with fail
      obtain ⟨U, hU⟩ : ∃ U, U = wr.alloc (.cells #[.int .i64 x.f0, .int .i64 x.f1] 59) := ⟨_, rfl⟩
      obtain ⟨F, hF⟩ : ∃ F, F = wr.heap.size := ⟨_, rfl⟩
      obtain ⟨B, hB⟩ : ∃ B, B = w.heap.size + 1 := ⟨_, rfl⟩
      have hf : U.heap[F]? = some (.cells #[.int .i64 x.f0, .int .i64 x.f1] 59 (0, 0)) := by rw [hU, hF]; exact heap_alloc_new _ _
      have hp : PickW w U a b := by rw [hU]; exact HW.out.below ((Below.refl _ _).alloc (Nat.le_refl _) _)
      have z0 : U.cell? ⟨F, 0, none⟩ = some (.int .i64 x.f0) := (blk_cell hf 0).trans rfl
      have z1 : U.cell? ⟨F, 1, none⟩ = some (.int .i64 x.f1) := (blk_cell hf 1).trans rfl
      have y0 : U.cell? ⟨B, 0, none⟩ = some (.int .i64 a) := by rw [hB]; exact (blk_cell hp.c 0).trans rfl
      have y1 : U.cell? ⟨B, 1, none⟩ = some (.int .i64 b) := by rw [hB]; exact (blk_cell hp.c 1).trans rfl
      have HP := Lib.hid hp
      have HF := Lib.hid hf
      have HBB := Lib.hid hB
      rw [← hU, ← hF, ← hB]
      clear hU hF hB hf hp x0 x1 HW
      cases is with
      | false =>
        refine wp_mono (Q := Exit.then ?_ (fun _ _ _ => False)) ?_ ?_
        rotate_left 2
        · intro e a w h
          cases e with
          | normal => exact h
          | _ => exact (show False from h).elim
        refine start_ (n := 11) (S := fun u => u.cell? ⟨F, 0, none⟩ = some (.int .i64 x.f0) ∧ u.cell? ⟨F, 1, none⟩ = some (.int .i64 x.f1) ∧ u.cell? ⟨B, 0, none⟩ = some (.int .i64 a) ∧ u.cell? ⟨B, 1, none⟩ = some (.int .i64 b)) (ds := []) #[false, false, false, false, false, false, false, false, false, false, false] (by kernel_rfl) rfl rfl ⟨z0, z1, y0, y1⟩ (fun hHeld => ?_)
        refine pS_ 0 16 ?_
        refine pS_ 1 17 ?_
        refine pS_ 2 18 ?_
        refine pure_ (i := 3) (N := some 19) (v := undef) (a' := ?_) #[true, true, true, true, false, false, false, false, false, false, false] rfl rfl (by kernel_rfl) (fun _ _ _ h => h) (Or.inr ⟨by rfl, rfl⟩) ?_ ?_
        rotate_left
        · simp only [Act.put, List.setIfInBounds_toArray, List.set_cons_zero, List.set_cons_succ]
          rfl
        refine pure_ (i := 4) (N := some 20) (v := undef) (a' := ?_) #[true, true, true, true, true, false, false, false, false, false, false] rfl rfl (by kernel_rfl) (fun _ _ _ h => h) (Or.inr ⟨by rfl, rfl⟩) ?_ ?_
        rotate_left
        · simp only [Act.put, List.setIfInBounds_toArray, List.set_cons_zero, List.set_cons_succ]
          rfl
        refine pure_ (i := 6) (N := some 22) (v := undef) (a' := ?_) #[true, true, true, true, true, false, true, false, false, false, false] rfl rfl (by kernel_rfl) (fun _ _ _ h => h) (Or.inr ⟨by rfl, rfl⟩) ?_ ?_
        rotate_left
        · simp only [Act.put, List.setIfInBounds_toArray, List.set_cons_zero, List.set_cons_succ]
          rfl
        refine pure_ (i := 7) (N := some 23) (v := undef) (a' := ?_) #[true, true, true, true, true, false, true, true, false, false, false] rfl rfl (by kernel_rfl) (fun _ _ _ h => h) (Or.inr ⟨by rfl, rfl⟩) ?_ ?_
        rotate_left
        · simp only [Act.put, List.setIfInBounds_toArray, List.set_cons_zero, List.set_cons_succ]
          rfl
        refine oS_ 5 21 (fun K hK => ?_)
        refine off_ (by rfl) ?_
        refine hK.out _ _ hHeld (fun hHeld => ?_)
        clear hK K
        refine nS_ ?_
        refine oS_ 8 24 (fun K hK => ?_)
        refine off_ (by rfl) ?_
        refine hK.out _ _ hHeld (fun hHeld => ?_)
        clear hK K
        refine nS_ ?_
        refine pure_ (i := 9) (N := some 25) (v := undef) (a' := ?_) #[true, true, true, true, true, true, true, true, true, true, false] rfl rfl (by kernel_rfl) (fun _ _ _ h => h) (Or.inr ⟨by rfl, rfl⟩) ?_ ?_
        rotate_left
        · simp only [Act.put, List.setIfInBounds_toArray, List.set_cons_zero, List.set_cons_succ]
          rfl
        refine pS_ 10 26 ?_
        refine dS_ ?_
        obtain ⟨V, hV⟩ : ∃ V, V = U.drew := ⟨_, rfl⟩
        have HV := Lib.hid (show Below U.heap.size U V by rw [hV]; exact below_drew1 (Below.refl _ _))
        rw [← hV] at hHeld ⊢
        clear hV z0 z1 y0 y1
        have hpv : PickW w V a b := HP.out.below HV.out
        have hfv : V.heap[F]? = some (.cells #[.int .i64 x.f0, .int .i64 x.f1] 59 (0, 0)) := (HV.out.block F (blk_lt HF.out)).trans HF.out
        have hbv : V.heap[B]? = some (.cells #[.int .i64 a, .int .i64 b] 59 (0, 0)) := by rw [HBB.out]; exact hpv.c
        have f0 := Lib.frozen_of_heap hbv 0
        have f1 := Lib.frozen_of_heap hbv 1
        obtain ⟨t0, t1, t2, t3⟩ := hHeld
        have HQ := Lib.hid (show PickW w ((V.setCell ⟨B, 0, none⟩ (.int .i64 x.f0)).setCell ⟨B, 1, none⟩ (.int .i64 x.f1)) x.f0 x.f1 from
          ⟨(hpv.h.setCell (by rw [HBB.out]; exact Nat.le_succ _) _).setCell (by rw [HBB.out]; exact Nat.le_succ _) _,
           ((Below.heap_setCell _ _ _ _ (by rw [HBB.out]; exact Nat.ne_of_lt (Nat.lt_succ_self _))).trans (Below.heap_setCell _ _ _ _ (by rw [HBB.out]; exact Nat.ne_of_lt (Nat.lt_succ_self _)))).trans hpv.r,
           by
            have := blk_set (blk_set hbv 0 (.int .i64 x.f0)) 1 (.int .i64 x.f1)
            rw [← HBB.out]
            simpa using this⟩)
        clear hpv hfv hbv HV
        go_wp2
        have hBq := HBB.out
        subst hBq
        go_roundw
        case rel => exact ⟨i + 1, x.f0, x.f1, true, HLT.out, by rw [HSU.out]; unfold pickS; rw [if_pos (.inl rfl)], by rw [hwi], rfl, ⟨HQ.out⟩⟩
        case measure => rw [hwi]; exact less_step (by decide) HLT.out
      | true =>
        by_cases hab : a < x.f0
        case' pos => have hd := decide_eq_true hab
        case' neg => have hd := decide_eq_false hab
        all_goals have HAB := Lib.hid hab
        all_goals clear hab
        case pos =>
          refine wp_mono (Q := Exit.then ?_ (fun _ _ _ => False)) ?_ ?_
          rotate_left 2
          · intro e a w h
            cases e with
            | normal => exact h
            | _ => exact (show False from h).elim
          refine start_ (n := 11) (S := fun u => u.cell? ⟨F, 0, none⟩ = some (.int .i64 x.f0) ∧ u.cell? ⟨F, 1, none⟩ = some (.int .i64 x.f1) ∧ u.cell? ⟨B, 0, none⟩ = some (.int .i64 a) ∧ u.cell? ⟨B, 1, none⟩ = some (.int .i64 b)) (ds := []) #[false, false, false, false, false, false, false, false, false, false, false] (by kernel_rfl) rfl rfl ⟨z0, z1, y0, y1⟩ (fun hHeld => ?_)
          refine pS_ 0 16 ?_
          refine pS_ 1 17 ?_
          refine pS_ 2 18 ?_
          refine pS_ 3 19 ?_
          refine pS_ 6 22 ?_
          refine tS_ 4 20 hHeld ?_
          refine tS_ 7 23 hHeld ?_
          refine oS_ 5 21 (fun K hK => ?_)
          refine call_ 26 #[.agg #[.int .i64 x.f0, .int .i64 x.f1]] (by rfl) rfl (by go_simp <;> rfl) ?_
          refine (cmap_Get_1.calls x.f0 x.f1 _ _ rfl).mono ?_
          rintro e W5 ⟨rfl, hb5⟩
          refine ⟨_, rfl, ?_⟩
          have hK2 := hK.out
          clear hK
          have hk_ := keep4 hb5 hHeld.1 hHeld.2.1 hHeld.2.2.1 hHeld.2.2.2
          refine hK2 _ _ hk_ (fun hHeld => ?_)
          clear hK2
          refine nS_ ?_
          refine oS_ 8 24 (fun K hK => ?_)
          refine call_ 26 #[.agg #[.int .i64 a, .int .i64 b]] (by rfl) rfl (by go_simp <;> rfl) ?_
          refine (cmap_Get_1.calls a b _ _ rfl).mono ?_
          rintro e W8 ⟨rfl, hb8⟩
          refine ⟨_, rfl, ?_⟩
          have hK2 := hK.out
          clear hK
          have hk_ := keep4 hb8 hHeld.1 hHeld.2.1 hHeld.2.2.1 hHeld.2.2.2
          refine hK2 _ _ hk_ (fun hHeld => ?_)
          clear hK2
          refine nS_ ?_
          refine pS_ 9 25 ?_
          refine pS_ 10 26 ?_
          refine dS_ ?_
          have HV := Lib.hid (show Below U.heap.size U W8 from below_then (below_then (below_drew1 (Below.refl _ _)) (Nat.le_refl _) hb5) (below_then (below_drew1 (Below.refl _ _)) (Nat.le_refl _) hb5 : Below U.heap.size U W5).size hb8)
          obtain ⟨V, hV⟩ : ∃ V, V = W8 := ⟨_, rfl⟩
          rw [← hV] at HV hHeld ⊢
          clear hV hk_ hb5 hb8 z0 z1 y0 y1 hd
          have hpv : PickW w V a b := HP.out.below HV.out
          have hfv : V.heap[F]? = some (.cells #[.int .i64 x.f0, .int .i64 x.f1] 59 (0, 0)) := (HV.out.block F (blk_lt HF.out)).trans HF.out
          have hbv : V.heap[B]? = some (.cells #[.int .i64 a, .int .i64 b] 59 (0, 0)) := by rw [HBB.out]; exact hpv.c
          have f0 := Lib.frozen_of_heap hbv 0
          have f1 := Lib.frozen_of_heap hbv 1
          obtain ⟨t0, t1, t2, t3⟩ := hHeld
          have HQ := Lib.hid (show PickW w ((V.setCell ⟨B, 0, none⟩ (.int .i64 x.f0)).setCell ⟨B, 1, none⟩ (.int .i64 x.f1)) x.f0 x.f1 from
            ⟨(hpv.h.setCell (by rw [HBB.out]; exact Nat.le_succ _) _).setCell (by rw [HBB.out]; exact Nat.le_succ _) _,
             ((Below.heap_setCell _ _ _ _ (by rw [HBB.out]; exact Nat.ne_of_lt (Nat.lt_succ_self _))).trans (Below.heap_setCell _ _ _ _ (by rw [HBB.out]; exact Nat.ne_of_lt (Nat.lt_succ_self _)))).trans hpv.r,
             by
              have := blk_set (blk_set hbv 0 (.int .i64 x.f0)) 1 (.int .i64 x.f1)
              rw [← HBB.out]
              simpa using this⟩)
          clear hpv hfv hbv HV
          go_wp2
          have hBq := HBB.out
          subst hBq
          go_roundw
          case rel => exact ⟨i + 1, x.f0, x.f1, true, HLT.out, by rw [HSU.out]; unfold pickS; rw [if_pos (.inr HAB.out)], by rw [hwi], rfl, ⟨HQ.out⟩⟩
          case measure => rw [hwi]; exact less_step (by decide) HLT.out
        case neg =>
          refine wp_mono (Q := Exit.then ?_ (fun _ _ _ => False)) ?_ ?_
          rotate_left 2
          · intro e a w h
            cases e with
            | normal => exact h
            | _ => exact (show False from h).elim
          refine start_ (n := 11) (S := fun u => u.cell? ⟨F, 0, none⟩ = some (.int .i64 x.f0) ∧ u.cell? ⟨F, 1, none⟩ = some (.int .i64 x.f1) ∧ u.cell? ⟨B, 0, none⟩ = some (.int .i64 a) ∧ u.cell? ⟨B, 1, none⟩ = some (.int .i64 b)) (ds := []) #[false, false, false, false, false, false, false, false, false, false, false] (by kernel_rfl) rfl rfl ⟨z0, z1, y0, y1⟩ (fun hHeld => ?_)
          refine pS_ 0 16 ?_
          refine pS_ 1 17 ?_
          refine pS_ 2 18 ?_
          refine pS_ 3 19 ?_
          refine pS_ 6 22 ?_
          refine tS_ 4 20 hHeld ?_
          refine tS_ 7 23 hHeld ?_
          refine oS_ 5 21 (fun K hK => ?_)
          refine call_ 26 #[.agg #[.int .i64 x.f0, .int .i64 x.f1]] (by rfl) rfl (by go_simp <;> rfl) ?_
          refine (cmap_Get_1.calls x.f0 x.f1 _ _ rfl).mono ?_
          rintro e W5 ⟨rfl, hb5⟩
          refine ⟨_, rfl, ?_⟩
          have hK2 := hK.out
          clear hK
          have hk_ := keep4 hb5 hHeld.1 hHeld.2.1 hHeld.2.2.1 hHeld.2.2.2
          refine hK2 _ _ hk_ (fun hHeld => ?_)
          clear hK2
          refine nS_ ?_
          refine oS_ 8 24 (fun K hK => ?_)
          refine call_ 26 #[.agg #[.int .i64 a, .int .i64 b]] (by rfl) rfl (by go_simp <;> rfl) ?_
          refine (cmap_Get_1.calls a b _ _ rfl).mono ?_
          rintro e W8 ⟨rfl, hb8⟩
          refine ⟨_, rfl, ?_⟩
          have hK2 := hK.out
          clear hK
          have hk_ := keep4 hb8 hHeld.1 hHeld.2.1 hHeld.2.2.1 hHeld.2.2.2
          refine hK2 _ _ hk_ (fun hHeld => ?_)
          clear hK2
          refine nS_ ?_
          refine pS_ 9 25 ?_
          refine pS_ 10 26 ?_
          refine dS_ ?_
          have HV := Lib.hid (show Below U.heap.size U W8 from below_then (below_then (below_drew1 (Below.refl _ _)) (Nat.le_refl _) hb5) (below_then (below_drew1 (Below.refl _ _)) (Nat.le_refl _) hb5 : Below U.heap.size U W5).size hb8)
          obtain ⟨V, hV⟩ : ∃ V, V = W8 := ⟨_, rfl⟩
          rw [← hV] at HV hHeld ⊢
          clear hV hk_ hb5 hb8 z0 z1 y0 y1 hd
          have HQ := Lib.hid (HP.out.below HV.out)
          clear HV
          go_wp2
          have hBq := HBB.out
          subst hBq
          go_roundw
          case rel => exact ⟨.bool true, .pointer (some ⟨F, 0, none⟩), .int .i64 ((i : Int) + 1), ⟨i + 1, HLT.out, a, b, .inr ⟨by rw [HSU.out]; unfold pickS; rw [if_neg (by rintro (h | h); exact Bool.noConfusion h; exact absurd h (Int.not_lt.2 HAB.out))], by simp, rfl, ⟨HQ.out⟩⟩⟩, rfl, rfl, rfl, rfl⟩
          case measure => rw [show ((i : Int) + 1) = ((i + 1 : Nat) : Int) by simp]; exact less_step (by decide) HLT.out
    · have hie : i = n := by omega
      have d3 : decide ((i : Int) < (n : Int)) = false := decide_eq_false (by omega)
      have hfull : l.take i = l := List.take_of_length_le (by have := HN.out; omega)
      rw [hfull] at hbest
      have HBE := Lib.hid hbest
      have hc := HW.out.c
      have hr := HW.out.r
      have y0 : wr.cell? ⟨w.heap.size + 1, 0, none⟩ = some (.int .i64 a) := (blk_cell hc 0).trans rfl
      have y1 : wr.cell? ⟨w.heap.size + 1, 1, none⟩ = some (.int .i64 b) := (blk_cell hc 1).trans rfl
      have f0 := Lib.frozen_of_heap hr 0
      have f1 := Lib.frozen_of_heap hr 1
      have r0 : wr.cell? ⟨w.heap.size, 0, none⟩ = some (.int .i64 0) := (blk_cell hr 0).trans rfl
      have r1 : wr.cell? ⟨w.heap.size, 1, none⟩ = some (.int .i64 0) := (blk_cell hr 1).trans rfl
      have HE := Lib.hid (show ((wr.setCell ⟨w.heap.size, 0, none⟩ (.int .i64 a)).setCell ⟨w.heap.size, 1, none⟩ (.int .i64 b)).heap[w.heap.size]? = some (.cells #[.int .i64 a, .int .i64 b] 59 (0, 0)) by
        have := blk_set (blk_set hr 0 (.int .i64 a)) 1 (.int .i64 b)
        simpa using this)
      have HBL := Lib.hid ((HW.out.h.setCell (p := ⟨w.heap.size, 0, none⟩) (Nat.le_refl _) (.int .i64 a)).setCell (p := ⟨w.heap.size, 1, none⟩) (Nat.le_refl _) (.int .i64 b))
      clear hfull hbest hc hr HW hlt hi
      go_wp2
      refine bodyPost_ret (results_cell_tmp_row rfl _ _ w.heap.size _ (run_loadVar_row _ w.heap.size _ 59 _ _ _ HE.out hu rfl (by kernel_rfl)) rfl) rfl ?_
      rw [HBE.out]
      exact ⟨rfl, HBL.out⟩
end Go.Proofs.Ytejdflndgnpkcaa.P
end
section
namespace Go.Proofs.Ytejdflndgnpkcaa.P
open Go.RowKit Go.Proofs.YtejdflndgnpkcaaW.PrintWords Go.Proofs.YtejdflndgnpkcaaW.PrintLast Go.Proofs.YtejdflndgnpkcaaW.PrintMore
attribute [local go_sem] max2_int min2_int max_two min_two max_three min_three max_four min_four
theorem eqA41 (d : Nat) (w : World) (x0 y0 : Int) (x1 y1 : Int) :
  (Op.equalIn (d + 2) 41 (.agg #[.int .i64 x0, .int .i64 x1]) (.agg #[.int .i64 y0, .int .i64 y1])).run Try.prog w = .ok (x0 == y0 && (x1 == y1)) w := by
 refine eqA_of Try.underlying41 (by kernel_rfl) ?_
 refine eqf_cons (by rfl) (by go_simp; rfl) (by go_simp; rfl) (by go_simp) ?_
 exact eqf_last (by rfl) (by go_simp; rfl) (by go_simp; rfl) (by go_simp)
end Go.Proofs.Ytejdflndgnpkcaa.P
end
section
namespace Go.Proofs.Ytejdflndgnpkcaa.P
open Go.RowKit Go.Proofs.YtejdflndgnpkcaaW.PrintWords Go.Proofs.YtejdflndgnpkcaaW.PrintLast Go.Proofs.YtejdflndgnpkcaaW.PrintMore
attribute [local go_sem] max2_int min2_int max_two min_two max_three min_three max_four min_four
attribute [local go_sem high] eqA41
def cmap_kind.l0 : Nat → List (S41) → Int → Int → Int → Int → Option (Int)
 | 0, _, _, _, _, _ => none
 | k + 1, x0, x7, x8, x221000, x221001 => if x8 < x7 then (if 0 ≤ x8 then (if x8 < (x0.length : Int) then (if (x221000 == ((rd_T41 x0 x8).f0) && (x221001 == ((rd_T41 x0 x8).f1))) = true then (some x8) else (cmap_kind.l0 k x0 x7 (wrap64 (x8 + 1)) x221000 x221001)) else (none)) else (none)) else (some (-1))
def cmap_kind.f (k : Nat) (l0 : List (S41)) (a1_0 : Int) (a1_1 : Int) : Option (Int) := cmap_kind.l0 k l0 (l0.length : Int) 0 a1_0 a1_1
set_option maxHeartbeats 8000000 in
set_option maxRecDepth 100000 in
theorem cmap_kind.calls (k : Nat) (A0 : Option Addr) (c0 : Nat) (l0 : List (S41)) (a1_0 : Int) (a1_1 : Int) (r : Int) (w : World) (hr0 : Kd.C k41 w A0 l0.length l0) (hc0 : l0.length ≤ c0) (h : cmap_kind.f k l0 a1_0 a1_1 = some r) :
  Calls Try.prog 28 #[.slice A0 l0.length c0, .agg #[.int .i64 a1_0, .int .i64 a1_1]] w fun e w' => e = .returned (.int .i64 r) ∧ Below w.heap.size w w' := by
 have hu41 := Try.underlying41
 have HR0 := Aside0.mk hr0
 have HC0 := Aside0.mk hc0
 clear hr0 hc0
 have HB := Aside0.mk (Below.refl w.heap.size w)
 have H : (cmap_kind.l0 k l0 (l0.length : Int) 0 a1_0 a1_1) = some r := h
 clear h
 have H' := Aside0.mk H
 clear H
 go_enter Try.func28, Try.ntmps28
 go_wp2_with (first | ((with_reducible refine gate_dst (N := 3) rfl ?_); refine box_event ?hg (N := 3) ?hd (cs := #[.int .i64 a1_0, .int .i64 a1_1]) (t := 41) ?hr ?_; (case hd => rfl); (case hg => rfl); (case hr => exact hA); intro gb220 hg w3 hbox hb; have n0_ := Aside0.mk (below_step bA hb); have n1_ := Aside0.mk (hbox); have n2_ := Aside0.mk ((by rw [hg]; exact (below_size bA) : w.heap.size ≤ gb220)); have n3_ := Aside0.mk ((by rw [hg]; exact (below_size bA) : w.heap.size ≤ gb220)); clear HB; have HB := n0_; have BK220 := n1_; have GW220 := n2_; have GE220 := n3_; clear n0_ n1_ n2_ n3_; clear hb hbox hg))
 repeat (go_quiet (first | ((with_reducible refine gate_dst (N := 3) rfl ?_); refine box_event ?hg (N := 3) ?hd (cs := #[.int .i64 a1_0, .int .i64 a1_1]) (t := 41) ?hr ?_; (case hd => rfl); (case hg => rfl); (case hr => exact hA); intro gb220 hg w3 hbox hb; have n0_ := Aside0.mk (below_step bA hb); have n1_ := Aside0.mk (hbox); have n2_ := Aside0.mk ((by rw [hg]; exact (below_size bA) : w.heap.size ≤ gb220)); have n3_ := Aside0.mk ((by rw [hg]; exact (below_size bA) : w.heap.size ≤ gb220)); clear HB; have HB := n0_; have BK220 := n1_; have GW220 := n2_; have GE220 := n3_; clear n0_ n1_ n2_ n3_; clear hb hbox hg)); try go_wp2_with (first | ((with_reducible refine gate_dst (N := 3) rfl ?_); refine box_event ?hg (N := 3) ?hd (cs := #[.int .i64 a1_0, .int .i64 a1_1]) (t := 41) ?hr ?_; (case hd => rfl); (case hg => rfl); (case hr => exact hA); intro gb220 hg w3 hbox hb; have n0_ := Aside0.mk (below_step bA hb); have n1_ := Aside0.mk (hbox); have n2_ := Aside0.mk ((by rw [hg]; exact (below_size bA) : w.heap.size ≤ gb220)); have n3_ := Aside0.mk ((by rw [hg]; exact (below_size bA) : w.heap.size ≤ gb220)); clear HB; have HB := n0_; have BK220 := n1_; have GW220 := n2_; have GE220 := n3_; clear n0_ n1_ n2_ n3_; clear hb hbox hg)))
 go_loopg [8] k (fun kq v8 w' => ∃ (x8_1 : Int), v8 = .int .i64 x8_1 ∧ Aside0 (cmap_kind.l0 kq l0 (l0.length : Int) x8_1 a1_0 a1_1 = some r) ∧ Aside0 (kq ≤ k) ∧ Aside0 (w'.heap[gb220]? = some (.cells #[.int .i64 a1_0, .int .i64 a1_1] 41 (0, 0))) ∧ Aside0 (Below w.heap.size w w'))
 case atStart => exact ⟨(0), gA, H', ⟨Nat.le_refl _⟩, ⟨by (with_reducible repeat (first | refine blk_drewN ?_ _ | refine blk_drew ?_ | refine blk_alloc ?_ _)); exact BK220.out⟩, ⟨by repeat (first | (with_reducible first | exact HB.out | apply below_alloc | apply pw_below_drewN | apply below_drew1 | refine below_set ?_ GE220.out) | exact HB.out)⟩⟩
 case round =>
  clear H'
  try clear c2
  try clear p2
  obtain ⟨x8_1, rfl, HA, HK1, BK220, HB⟩ := hrel
  cases gk with
  | zero => exact absurd HA.out (by simp [cmap_kind.l0])
  | succ k1 =>
   have H := HA.out
   clear HA
   simp only [cmap_kind.l0] at H
   by_cases c4 : x8_1 < (l0.length : Int)
   ·
    rw [if_pos c4] at H
    have c4b0 : decide (x8_1 < (l0.length : Int)) = true := decide_eq_true c4
    clear c4
    by_cases c5 : 0 ≤ x8_1
    ·
     rw [if_pos c5] at H
     have c5b0 : decide (0 ≤ x8_1) = true := decide_eq_true c5
     clear c5
     by_cases c6 : x8_1 < (l0.length : Int)
     ·
      rw [if_pos c6] at H
      have c6b0 : decide (x8_1 < (l0.length : Int)) = true := decide_eq_true c6
      clear c6
      by_cases c7 : (a1_0 == ((rd_T41 l0 x8_1).f0) && (a1_1 == ((rd_T41 l0 x8_1).f1))) = true
      ·
       rw [if_pos c7] at H
       have c7b0 : (a1_0 == ((rd_T41 l0 x8_1).f0) && (a1_1 == ((rd_T41 l0 x8_1).f1))) = true := c7
       (try (have c7b1 : decide (a1_0 = ((rd_T41 l0 x8_1).f0) && (a1_1 == ((rd_T41 l0 x8_1).f1))) = true := by simpa using c7))
       (try (have c7b2 : (a1_0 == ((rd_T41 l0 x8_1).f0) && (a1_1 == ((rd_T41 l0 x8_1).f1))) = true := by simpa using c7))
       clear c7
       obtain rfl := Option.some.inj H
       have hcz8_0 : wr.cell? ⟨gb220, 0, none⟩ = some (.int .i64 a1_0) := (blk_cell BK220.out 0).trans rfl
       have hcz8_1 : wr.cell? ⟨gb220, 1, none⟩ = some (.int .i64 a1_1) := (blk_cell BK220.out 1).trans rfl
       have hfz8_0 := blk_frozen BK220.out 0
       have hfz8_1 := blk_frozen BK220.out 1
       have p221 : 0 ≤ (x8_1 : Int) := of_decide_eq_true sA
       have q221 : x8_1 < (l0.length : Int) := of_decide_eq_true sA
       obtain ⟨ad221, e221, hx221_0, hx221_1⟩ := at_T41 HR0.out x8_1 p221 q221
       cases e221
       replace hx221_0 := (HB.out.cell (World.block_lt_of_cell? w _ hx221_0)).trans hx221_0
       replace hx221_1 := (HB.out.cell (World.block_lt_of_cell? w _ hx221_1)).trans hx221_1
       replace p221 := eq_true p221
       replace q221 := eq_true q221
       go_wp2
       repeat (go_quiet (fail); try go_wp2)
       go_ret
       exact ⟨eA, by repeat (first | (with_reducible first | exact HB.out | apply below_alloc | apply pw_below_drewN | apply below_drew1 | refine below_set ?_ GE220.out) | exact HB.out)⟩
      ·
       rw [if_neg c7] at H
       have c7b0 : (a1_0 == ((rd_T41 l0 x8_1).f0) && (a1_1 == ((rd_T41 l0 x8_1).f1))) = false := by simpa using c7
       (try (have c7b1 : decide (a1_0 = ((rd_T41 l0 x8_1).f0) && (a1_1 == ((rd_T41 l0 x8_1).f1))) = false := by simpa using c7))
       (try (have c7b2 : (a1_0 == ((rd_T41 l0 x8_1).f0) && (a1_1 == ((rd_T41 l0 x8_1).f1))) = false := by simpa using c7))
       (try (have c7b3 : ¬ (a1_0 = ((rd_T41 l0 x8_1).f0) && (a1_1 == ((rd_T41 l0 x8_1).f1))) := by simpa using c7))
       clear c7
       have H' := Aside0.mk H
       clear H
       have hcz9_0 : wr.cell? ⟨gb220, 0, none⟩ = some (.int .i64 a1_0) := (blk_cell BK220.out 0).trans rfl
       have hcz9_1 : wr.cell? ⟨gb220, 1, none⟩ = some (.int .i64 a1_1) := (blk_cell BK220.out 1).trans rfl
       have hfz9_0 := blk_frozen BK220.out 0
       have hfz9_1 := blk_frozen BK220.out 1
       have p221 : 0 ≤ (x8_1 : Int) := of_decide_eq_true sA
       have q221 : x8_1 < (l0.length : Int) := of_decide_eq_true sA
       obtain ⟨ad221, e221, hx221_0, hx221_1⟩ := at_T41 HR0.out x8_1 p221 q221
       cases e221
       replace hx221_0 := (HB.out.cell (World.block_lt_of_cell? w _ hx221_0)).trans hx221_0
       replace hx221_1 := (HB.out.cell (World.block_lt_of_cell? w _ hx221_1)).trans hx221_1
       replace p221 := eq_true p221
       replace q221 := eq_true q221
       go_wp2
       repeat (go_quiet (fail); try go_wp2)
       go_roundg k1
       case measure => have := HK1.out; omega
       case rel => exact ⟨(wrap64 (x8_1 + 1)), gA, H', ⟨by have := HK1.out; omega⟩, ⟨by (with_reducible repeat (first | refine blk_drewN ?_ _ | refine blk_drew ?_ | refine blk_alloc ?_ _)); exact BK220.out⟩, ⟨by repeat (first | (with_reducible first | exact HB.out | apply below_alloc | apply pw_below_drewN | apply below_drew1 | refine below_set ?_ GE220.out) | exact HB.out)⟩⟩
     ·
      rw [if_neg c6] at H
      exact absurd H (by simp)
    ·
     rw [if_neg c5] at H
     exact absurd H (by simp)
   ·
    rw [if_neg c4] at H
    have c4b0 : decide (x8_1 < (l0.length : Int)) = false := decide_eq_false c4
    clear c4
    obtain rfl := Option.some.inj H
    go_wp2
    repeat (go_quiet (fail); try go_wp2)
    go_ret
    exact ⟨eA, by repeat (first | (with_reducible first | exact HB.out | apply below_alloc | apply pw_below_drewN | apply below_drew1 | refine below_set ?_ GE220.out) | exact HB.out)⟩
end Go.Proofs.Ytejdflndgnpkcaa.P
end
section
namespace Go.Proofs.Ytejdflndgnpkcaa.P
open Go.RowKit Go.Proofs.YtejdflndgnpkcaaW.PrintWords Go.Proofs.YtejdflndgnpkcaaW.PrintLast Go.Proofs.YtejdflndgnpkcaaW.PrintMore
attribute [local go_sem] max2_int min2_int max_two min_two max_three min_three max_four min_four
def cmap_kinds.f  : Option ((List (S41))) := some (([(⟨1, 0⟩ : S41), (⟨0, 0⟩ : S41), (⟨0, 1⟩ : S41), (⟨0, 2⟩ : S41), (⟨0, 3⟩ : S41), (⟨3, 1⟩ : S41), (⟨0, 4⟩ : S41), (⟨0, 6⟩ : S41), (⟨3, 10⟩ : S41)] : List (S41)))
set_option maxHeartbeats 8000000 in
set_option maxRecDepth 100000 in
theorem cmap_kinds.calls  (r : List (S41)) (w : World) (h : cmap_kinds.f  = some r) :
  Calls Try.prog 29 #[] w fun e w' => ∃ v0_ : Value, e = .returned (v0_) ∧ Kd.R k41 41 w' w.heap.size (fun _ => True) v0_ r ∧ Below w.heap.size w w' := by
 have hu41 := Try.underlying41
 have HB := Aside0.mk (Below.refl w.heap.size w)
 have H : (some (([(⟨1, 0⟩ : S41), (⟨0, 0⟩ : S41), (⟨0, 1⟩ : S41), (⟨0, 2⟩ : S41), (⟨0, 3⟩ : S41), (⟨3, 1⟩ : S41), (⟨0, 4⟩ : S41), (⟨0, 6⟩ : S41), (⟨3, 10⟩ : S41)] : List (S41)))) = some r := h
 clear h
 obtain ⟨y222, hy222⟩ : ∃ y_ : List (S41), y_ = (([(⟨1, 0⟩ : S41), (⟨0, 0⟩ : S41), (⟨0, 1⟩ : S41), (⟨0, 2⟩ : S41), (⟨0, 3⟩ : S41), (⟨3, 1⟩ : S41), (⟨0, 4⟩ : S41), (⟨0, 6⟩ : S41), (⟨3, 10⟩ : S41)] : List (S41))) := ⟨_, rfl⟩
 replace H : (some y222) = some r := by first | (rw [hy222]; with_reducible exact H) | (have H2_ := (Option.bind_some _ _).symm.trans H; rw [hy222]; with_reducible exact H2_) | (have H2_ := (Option.bind_some _ _).symm.trans H; with_reducible exact H2_) | with_reducible exact H | (rw [hy222]; exact H) | exact H
 have Ny222 := Aside0.mk hy222
 clear hy222
 obtain rfl := Option.some.inj H
 go_enter Try.func29, Try.ntmps29
 go_wp2_with (first | ((with_reducible refine gate_dst (N := 10) rfl ?_); refine Kd.R_lit k41 _ 41 ?hg (N := 10) ?hd (xs := ([(⟨1, 0⟩ : S41), (⟨0, 0⟩ : S41), (⟨0, 1⟩ : S41), (⟨0, 2⟩ : S41), (⟨0, 3⟩ : S41), (⟨3, 1⟩ : S41), (⟨0, 4⟩ : S41), (⟨0, 6⟩ : S41), (⟨3, 10⟩ : S41)] : List (S41))) (inner := [.int .i64 1, .int .i64 0, .int .i64 0, .int .i64 0, .int .i64 0, .int .i64 1, .int .i64 0, .int .i64 2, .int .i64 0, .int .i64 3, .int .i64 3, .int .i64 1, .int .i64 0, .int .i64 4, .int .i64 0, .int .i64 6, .int .i64 3, .int .i64 10]) (ok := fun _ => True) (okp := fun _ => True) ?hr ?hp (fun _ hk => hk) trivial (Below.refl _ _) (Nat.le_refl _) (by simp) ?_; (case hd => rfl); (case hg => rfl); (case hr => exact hA); (case hp => exact (Reps.c2 (show Kd.M k41 _ _ _ (⟨1, 0⟩ : S41) [.int .i64 1, .int .i64 0] from (k41_mkM _ _ _ (⟨1, 0⟩ : S41) )) (Reps.c2 (show Kd.M k41 _ _ _ (⟨0, 0⟩ : S41) [.int .i64 0, .int .i64 0] from (k41_mkM _ _ _ (⟨0, 0⟩ : S41) )) (Reps.c2 (show Kd.M k41 _ _ _ (⟨0, 1⟩ : S41) [.int .i64 0, .int .i64 1] from (k41_mkM _ _ _ (⟨0, 1⟩ : S41) )) (Reps.c2 (show Kd.M k41 _ _ _ (⟨0, 2⟩ : S41) [.int .i64 0, .int .i64 2] from (k41_mkM _ _ _ (⟨0, 2⟩ : S41) )) (Reps.c2 (show Kd.M k41 _ _ _ (⟨0, 3⟩ : S41) [.int .i64 0, .int .i64 3] from (k41_mkM _ _ _ (⟨0, 3⟩ : S41) )) (Reps.c2 (show Kd.M k41 _ _ _ (⟨3, 1⟩ : S41) [.int .i64 3, .int .i64 1] from (k41_mkM _ _ _ (⟨3, 1⟩ : S41) )) (Reps.c2 (show Kd.M k41 _ _ _ (⟨0, 4⟩ : S41) [.int .i64 0, .int .i64 4] from (k41_mkM _ _ _ (⟨0, 4⟩ : S41) )) (Reps.c2 (show Kd.M k41 _ _ _ (⟨0, 6⟩ : S41) [.int .i64 0, .int .i64 6] from (k41_mkM _ _ _ (⟨0, 6⟩ : S41) )) (Reps.c2 (show Kd.M k41 _ _ _ (⟨3, 10⟩ : S41) [.int .i64 3, .int .i64 10] from (k41_mkM _ _ _ (⟨3, 10⟩ : S41) )) (Reps.none _ _))))))))))); intro v223 w1 ho2 hb hg_ hnew_; clear hg_ hnew_; (first | rw [← Ny222.out] at ho2 | (simp only [Int.reduceToNat] at ho2; rw [← Ny222.out] at ho2)); have HO224 := Aside0.mk (Kd.R_lower ho2 (below_size bA)); replace HB := Aside0.mk (below_step bA hb); clear hb ho2))
 go_ret
 exact ⟨_, eA, by (with_reducible repeat (first | apply Kd.R_alloc | apply Kd.R_drewN | apply Kd.R_drew)); exact HO224.out, by repeat (first | (with_reducible first | exact HB.out | apply below_alloc | apply pw_below_drewN | apply below_drew1) | exact HB.out)⟩
end Go.Proofs.Ytejdflndgnpkcaa.P
end
section
namespace Go.Proofs.Ytejdflndgnpkcaa.P
open Go.RowKit Go.Proofs.YtejdflndgnpkcaaW.PrintWords Go.Proofs.YtejdflndgnpkcaaW.PrintLast Go.Proofs.YtejdflndgnpkcaaW.PrintMore
attribute [local go_sem] max2_int min2_int max_two min_two max_three min_three max_four min_four
def cmap_Best.f (k : Nat) (a0 : Int) (a1 : Int) : Option (Int) := (cmap_kinds.f).bind fun t225 => ((cmap_kind.f k t225 a0 a1).bind fun t228 => (some (wrap64 (t228 + 1))))
set_option maxHeartbeats 8000000 in
set_option maxRecDepth 100000 in
theorem cmap_Best.calls (k : Nat) (a0 : Int) (a1 : Int) (r : Int) (w : World) (h : cmap_Best.f k a0 a1 = some r) :
  Calls Try.prog 12 #[.int .i64 a0, .int .i64 a1] w fun e w' => e = .returned (.int .i64 r) ∧ Below w.heap.size w w' := by
 have hu41 := Try.underlying41
 have HB := Aside0.mk (Below.refl w.heap.size w)
 have H : ((cmap_kinds.f).bind fun t225 => ((cmap_kind.f k t225 a0 a1).bind fun t228 => (some (wrap64 (t228 + 1))))) = some r := h
 clear h
 replace H := Option.bind_eq_some_iff.mp H
 obtain ⟨t225, A30, H⟩ := H
 try dsimp only at H
 have A3 := Aside0.mk A30
 clear A30
 replace H := Option.bind_eq_some_iff.mp H
 obtain ⟨t228, A40, H⟩ := H
 try dsimp only at H
 have A4 := Aside0.mk A40
 clear A40
 obtain rfl := Option.some.inj H
 go_enter Try.func12, Try.ntmps12
 go_wp2_with (first | ((with_reducible refine gate_callee (f := 29) rfl ?_); refine gL_ 5 Try.func29 #[] ?_; (with_reducible refine (cmap_kinds.calls  t225 _ A3.out).mono ?_); rintro e w5 ⟨v226, rfl, ho0, hb⟩; refine ⟨_, rfl, ?_⟩; have HO227 := Aside0.mk (Kd.R_lower ho0 (below_size bA)); replace HB := Aside0.mk (below_step bA hb); (try clear hb ho0); obtain ⟨Ao6, co6, eo6⟩ := Kd.R_slice HO227.out; subst eo6) | ((with_reducible refine gate_callee (f := 28) rfl ?_); refine gL_ 9 Try.func28 #[.slice Ao6 t225.length co6, .agg #[.int .i64 a0, .int .i64 a1]] ?_; (with_reducible refine (cmap_kind.calls k _ _ t225 a0 a1 t228 _ ?side1 ?side2 A4.out).mono ?_); (case side1 => exact cA (Kd.R_reads' HO227.out).2.2); (case side2 => exact (Kd.R_reads' HO227.out).2.1); rintro e w7 ⟨rfl, hb⟩; refine ⟨_, rfl, ?_⟩; replace HO227 := Aside0.mk (Kd.R_below (rA HO227.out) hb); replace HB := Aside0.mk (below_step bA hb); (try clear hb)))
 go_ret
 exact ⟨eA, bA⟩
end Go.Proofs.Ytejdflndgnpkcaa.P
end
section
namespace Go.Proofs.Ytejdflndgnpkcaa.P
open Go.RowKit Go.Proofs.YtejdflndgnpkcaaW.PrintWords Go.Proofs.YtejdflndgnpkcaaW.PrintLast Go.Proofs.YtejdflndgnpkcaaW.PrintMore
def bestP (p q : Int) : Int :=
 if p = 1 ∧ q = 0 then 1 else if p = 0 ∧ q = 0 then 2 else if p = 0 ∧ q = 1 then 3 else if p = 0 ∧ q = 2 then 4 else if p = 0 ∧ q = 3 then 5
 else if p = 3 ∧ q = 1 then 6 else if p = 0 ∧ q = 4 then 7 else if p = 0 ∧ q = 6 then 8 else if p = 3 ∧ q = 10 then 9 else 0
def isFmt (f : Int) : Bool := decide (f = 0 ∨ f = 4 ∨ f = 6 ∨ f = 12 ∨ f = 13)
def entM (s : ByteArray) (i : Nat) : S41 := ⟨bestP (w2 s (4 + 8 * i)) (w2 s (6 + 8 * i)), w4 s (8 + 8 * i)⟩
def mayM (s : ByteArray) (x : S41) : Bool := decide (x.f0 ≠ 0) && (decide (x.f1.toNat + 2 ≤ s.size) && isFmt (w2 s x.f1.toNat))
def entsM (s : ByteArray) (n : Nat) : List S41 := ((List.range n).map (entM s)).filter (mayM s)
def getM (s : ByteArray) : List S50 × Int :=
 if s.size < 4 then ([], 4)
 else if w2 s 0 ≠ 0 then ([], 5)
 else if 64 < w2 s 2 then ([], 7)
 else if (s.size : Int) < 4 + 8 * w2 s 2 then ([], 4)
 else if (bestS (entsM s (w2 s 2).toNat)).2 = false then ([], 6)
 else readM (s.extract (bestS (entsM s (w2 s 2).toNat)).1.f1.toNat s.size)
theorem entsM_succ (s : ByteArray) (n : Nat) : entsM s (n + 1) = entsM s n ++ (if mayM s (entM s n) = true then [entM s n] else []) := by
 unfold entsM
 rw [List.range_succ, List.map_append, List.filter_append]
 congr 1
 cases h : mayM s (entM s n) with
 | true => rw [if_pos rfl]; exact List.filter_cons_of_pos h
 | false => rw [if_neg Bool.false_ne_true]; exact List.filter_cons_of_neg (by rw [h]; exact Bool.false_ne_true)
theorem fmt_not {f : Int} (h : isFmt f = false) (m1 m2 : Nat) : fmtOf f m1 m2 = none := by
 have h := of_decide_eq_false h
 unfold fmtOf
 rw [if_neg (by omega), if_neg (by omega), if_neg (by omega), if_neg (by omega), if_neg (by omega)]
def ninE : List S41 := [⟨1, 0⟩, ⟨0, 0⟩, ⟨0, 1⟩, ⟨0, 2⟩, ⟨0, 3⟩, ⟨3, 1⟩, ⟨0, 4⟩, ⟨0, 6⟩, ⟨3, 10⟩]
theorem kind_step (k i : Nat) (p q : Int) (hi : i < 9) : cmap_kind.l0 (k + 1) ninE 9 (i : Int) p q = if p = (atK ninE i).f0 ∧ q = (atK ninE i).f1 then some (i : Int) else cmap_kind.l0 k ninE 9 ((i + 1 : Nat) : Int) p q := by
 have hw : wrap64 ((i : Int) + 1) = ((i + 1 : Nat) : Int) := by unfold wrap64; omega
 have hl : (ninE.length : Int) = 9 := rfl
 simp only [cmap_kind.l0]
 rw [if_pos (by omega), if_pos (by omega), if_pos (by rw [hl]; omega), hw, rd_atK]
 by_cases h : p = (atK ninE i).f0 ∧ q = (atK ninE i).f1
 · rw [if_pos h, if_pos (by rw [Bool.and_eq_true, beq_iff_eq, beq_iff_eq]; exact h)]
 · rw [if_neg h, if_neg (by rw [Bool.and_eq_true, beq_iff_eq, beq_iff_eq]; exact h)]
theorem best_told (p q : Int) (k : Nat) (hk : 20 ≤ k) : cmap_Best.f k p q = some (bestP p q) := by
 obtain ⟨k, rfl⟩ : ∃ m, k = m + 10 := ⟨k - 10, by omega⟩
 unfold cmap_Best.f cmap_kinds.f
 rw [Option.bind_some]
 show (cmap_kind.l0 (k + 10) ninE 9 ((0 : Nat) : Int) p q).bind _ = _
 rw [kind_step _ 0 p q (by decide), kind_step _ 1 p q (by decide), kind_step _ 2 p q (by decide), kind_step _ 3 p q (by decide), kind_step _ 4 p q (by decide), kind_step _ 5 p q (by decide), kind_step _ 6 p q (by decide), kind_step _ 7 p q (by decide), kind_step _ 8 p q (by decide)]
 have hend : cmap_kind.l0 (k + 1) ninE 9 ((8 + 1 : Nat) : Int) p q = some (-1) := by
  simp only [cmap_kind.l0]
  rw [if_neg (by decide)]
 rw [hend]
 unfold bestP
 show (if p = 1 ∧ q = 0 then _ else if p = 0 ∧ q = 0 then _ else if p = 0 ∧ q = 1 then _ else if p = 0 ∧ q = 2 then _ else if p = 0 ∧ q = 3 then _ else if p = 3 ∧ q = 1 then _ else if p = 0 ∧ q = 4 then _ else if p = 0 ∧ q = 6 then _ else if p = 3 ∧ q = 10 then _ else _ : Option Int).bind _ = _
 repeat' split
 all_goals decide +kernel
end Go.Proofs.Ytejdflndgnpkcaa.P
end
section
namespace Go.Proofs.Ytejdflndgnpkcaa.P
open Go.RowKit Go.Shelf Go.Proofs.YtejdflndgnpkcaaW.PrintWords Go.Proofs.YtejdflndgnpkcaaW.PrintLast Go.Proofs.YtejdflndgnpkcaaW.PrintMore
def numR (s : ByteArray) (p j : Nat) : Int := if j % 3 = 0 then w2 s (p + 8 * (j / 3)) else if j % 3 = 1 then w2 s (p + 2 + 8 * (j / 3)) else w4 s (p + 4 + 8 * (j / 3))
theorem numR_next (s : ByteArray) (p j : Nat) : numR s p (j + 3) = numR s (p + 8) j := by
 unfold numR
 have h1 : (j + 3) % 3 = j % 3 := by omega
 have h2 : (j + 3) / 3 = j / 3 + 1 := by omega
 have e1 : p + 8 * (j / 3 + 1) = p + 8 + 8 * (j / 3) := by omega
 have e2 : p + 2 + 8 * (j / 3 + 1) = p + 8 + 2 + 8 * (j / 3) := by omega
 have e3 : p + 4 + 8 * (j / 3 + 1) = p + 8 + 4 + 8 * (j / 3) := by omega
 rw [h1, h2, e1, e2, e3]
theorem range_three (f : Nat → Int) (m : Nat) : (List.range (3 * (m + 1))).map f = f 0 :: f 1 :: f 2 :: (List.range (3 * m)).map (fun j => f (j + 3)) := by
 have e : 3 * (m + 1) = 3 * m + 1 + 1 + 1 := by omega
 rw [e, List.range_succ_eq_map, List.map_cons, List.map_map, List.range_succ_eq_map, List.map_cons, List.map_map, List.range_succ_eq_map, List.map_cons, List.map_map]
 rfl
theorem takes_rec (s : ByteArray) : ∀ (m p : Nat), p + 8 * m ≤ s.size → takes (s.extract p s.size) (repN [2, 2, 4] m) = some ((List.range (3 * m)).map (numR s p))
 | 0, p, _ => rfl
 | m + 1, p, h => by
  have a2 : (2 : Int).natAbs = 2 := rfl
  have a4 : (4 : Int).natAbs = 4 := rfl
  have sz : ∀ p, (s.extract p s.size).size = s.size - p := fun p => by simp
  have ih := takes_rec s m (p + 8) (by omega)
  have t3 : takes (s.extract (p + 4) s.size) (4 :: repN [2, 2, 4] m) = some (w4 s (p + 4) :: (List.range (3 * m)).map (numR s (p + 8))) := take_of (by rw [a4, sz]; omega) (by rw [a4, ext_ext s (p + 4) 4 (by omega)]; exact ih)
  have t2 : takes (s.extract (p + 2) s.size) (2 :: 4 :: repN [2, 2, 4] m) = some (w2 s (p + 2) :: w4 s (p + 4) :: (List.range (3 * m)).map (numR s (p + 8))) := take_of (by rw [a2, sz]; omega) (by rw [a2, ext_ext s (p + 2) 2 (by omega)]; exact t3)
  have t1 : takes (s.extract p s.size) (2 :: 2 :: 4 :: repN [2, 2, 4] m) = some (w2 s p :: w2 s (p + 2) :: w4 s (p + 4) :: (List.range (3 * m)).map (numR s (p + 8))) := take_of (by rw [a2, sz]; omega) (by rw [a2, ext_ext s p 2 (by omega)]; exact t2)
  rw [range_three]
  refine Eq.trans t1 ?_
  congr 1
  have f : (fun j => numR s p (j + 3)) = numR s (p + 8) := funext (numR_next s p)
  rw [f]
  rfl
theorem takes_sum : ∀ (l : List Int) (t : ByteArray) (r : List Int), takes t l = some r → sumN l ≤ t.size
 | [], t, r, _ => Nat.zero_le _
 | s :: l, t, r, h => by
  simp only [takes] at h
  split at h
  ·
   rename_i hs
   cases hq : takes (t.extract s.natAbs t.size) l with
   | none => rw [hq] at h; simp at h
   | some q =>
    have ih := takes_sum l _ q hq
    have h2 : (t.extract s.natAbs t.size).size = t.size - s.natAbs := by simp
    have h3 : sumN (s :: l) = s.natAbs + sumN l := by simp [sumN]
    omega
  · simp at h
theorem get_recs (s : ByteArray) (m : Nat) (h4 : 4 ≤ s.size) : getN s 4 (repN [2, 2, 4] m) = if 4 + 8 * m ≤ s.size then ((List.range (3 * m)).map (numR s 4), 0) else ([], 4) := by
  unfold getN
  have e4 : (4 : Int).toNat = 4 := rfl
  rw [if_neg (by rintro (h | h)
                 · exact absurd h (by decide)
                 · rw [areSizes_rep [2, 2, 4] (by decide)] at h; exact absurd h (by decide)), if_neg (by omega), e4]
  by_cases h : 4 + 8 * m ≤ s.size
  · rw [if_pos h, takes_rec s m 4 h]
  · rw [if_neg h]
    cases hq : takes (s.extract 4 s.size) (repN [2, 2, 4] m) with
    | none => rfl
    | some r =>
      exfalso
      have h1 := takes_sum _ _ _ hq
      have h2 : (s.extract 4 s.size).size = s.size - 4 := by simp
      have h3 : sumN (repN [2, 2, 4] m) = 8 * m := by rw [sumN_rep]; rfl
      omega
def entX (X : List Int) (i : Nat) : S41 := ⟨bestP (rd X ((3 * i : Nat) : Int)) (rd X ((3 * i + 1 : Nat) : Int)), rd X ((3 * i + 2 : Nat) : Int)⟩
theorem recs_rd (s : ByteArray) (m : Nat) (X : List Int) (hX : X = (List.range (3 * m)).map (numR s 4)) (j : Nat) (h : j < 3 * m) : rd X (j : Int) = numR s 4 j := by
 rw [hX]; unfold rd
 rw [Int.toNat_natCast, List.getD_eq_getElem?_getD, List.getElem?_map, List.getElem?_range h]; rfl
theorem recs_told (s : ByteArray) (m : Nat) (X : List Int) (hX : X = (List.range (3 * m)).map (numR s 4)) : (List.finRange m).map (fun x => entX X x.1) = (List.range m).map (entM s) := by
 apply List.ext_getElem
 · simp
 ·
  intro i h1 h2
  have hi : i < m := by simpa using h1
  simp only [List.getElem_map, List.getElem_finRange, List.getElem_range]
  unfold entX entM
  simp only [Fin.val_cast]
  rw [recs_rd s m X hX (3 * i) (by omega), recs_rd s m X hX (3 * i + 1) (by omega), recs_rd s m X hX (3 * i + 2) (by omega)]
  unfold numR
  have d0 : 3 * i / 3 = i := by omega
  have d1 : (3 * i + 1) / 3 = i := by omega
  have d2 : (3 * i + 2) / 3 = i := by omega
  rw [if_pos (by omega), if_neg (by omega), if_pos (by omega), if_neg (by omega), if_neg (by omega), d0, d1, d2]
theorem recs_bd (s : ByteArray) (p j : Nat) : 0 ≤ numR s p j ∧ numR s p j ≤ 4294967295 := by
 unfold numR
 split
 · have := w2_bd s (p + 8 * (j / 3)); omega
 ·
  split
  · have := w2_bd s (p + 2 + 8 * (j / 3)); omega
  · exact w4_bd s _
theorem infoE : (Try.prog.info? 59).map (fun i => (i.zero, i.size, i.bytes)) = some (some (.agg #[(.int .i64 0), (.int .i64 0)]), 2, 16) := by kernel_rfl
structure RowM (w : World) (B : Nat) (ks : List Nat) (w3 : World) (W : World) (v : Value) (xs : List S41) : Prop where
 c : W.cell? ⟨B, 0, none⟩ = some v
 z : W.frozen? ⟨B, 0, none⟩ = false
 r : Kd.R k41 59 W w.heap.size (fun k => w3.heap.size ≤ k) v xs
 hB : Below w.heap.size w W
 hS : w3.heap.size ≤ W.heap.size
 hK : KeepsB ks w3 W
namespace RowM
variable {w w3 W U : World} {B : Nat} {ks : List Nat} {v v1 : Value} {xs ys : List S41}
theorem own_cells (h : RowM w B ks w3 W v xs) (k : Nat) (hk : v.ownBlock = some k) : w3.heap.size ≤ k ∧ k < W.heap.size ∧ ∃ cells q, W.heap[k]? = some (.cells cells q (0, 0)) := by
 have hb := (Kd.R_bound h.r).1 k hk
 obtain ⟨h1, h2, h3, q, hq, cells, hc⟩ := hb
 exact ⟨h1, h3, cells, q, hc⟩
theorem kept (h : RowM w B ks w3 W v xs) (hwB : w.heap.size ≤ B) (hB3 : B < w3.heap.size) (hks : ∀ k ∈ ks, k < w3.heap.size) {row : Option Nat} (hg : W.grownBy U row) (hr : ∀ r, row = some r → w3.heap.size ≤ r ∧ ∃ o : Obj, W.heap[r]? = some o ∧ o.isCells = false) : RowM w B ks w3 U v xs := by
 have hS := h.hS
 have eB : U.heap[B]? = W.heap[B]? := hg.block B (by omega) (fun e => by have := (hr B e.symm).1; omega)
 refine ⟨(cell_of eB).trans h.c, (frozen_of eB).trans h.z, ?_, h.hB.grown hg h.hB.size (fun k e => by have := (hr k e).1; omega), Nat.le_trans h.hS hg.size, fun k hk => ?_⟩
 ·
  refine Kd.R_mono (Kd.R_grown (Kd.R_bound h.r) hg (fun k hk e => ?_)) (fun k hk => hk.1)
  obtain ⟨_, _, _, q, _, cells, hc⟩ := hk
  obtain ⟨_, o, ho, hn⟩ := hr k e.symm
  rw [hc] at ho
  injection ho with ho
  subst ho
  exact absurd hn (by simp [Obj.isCells])
 ·
  have := hks k hk
  exact (hg.block k (by omega) (fun e => by have := (hr k e.symm).1; omega)).trans (h.hK k hk)
theorem below (h : RowM w B ks w3 W v xs) (hks : ∀ k ∈ ks, k < w3.heap.size) (hb : Below W.heap.size W U) : RowM w B ks w3 U v xs := by
 have hB := World.block_lt_of_cell? _ _ h.c
 dsimp only at hB
 exact ⟨(hb.cell hB).trans h.c, (frozen_of (hb.block B hB)).trans h.z, Kd.R_below h.r hb, h.hB.trans (hb.mono h.hB.size), Nat.le_trans h.hS hb.size, fun k hk => (hb.block k (Nat.lt_of_lt_of_le (hks k hk) h.hS)).trans (h.hK k hk)⟩
theorem grew (h : RowM w B ks w3 W v xs) (hwB : w.heap.size ≤ B) (hB3 : B < w3.heap.size) (hks : ∀ k ∈ ks, k < w3.heap.size) (hBk : B ∉ ks) (hr : Kd.R k41 59 U w.heap.size (fun k => w3.heap.size ≤ k) v1 ys) (hb : Below w.heap.size w U) (hg : W.grownBy U v.ownBlock) :
  U.cell? ⟨B, 0, none⟩ = some v ∧ U.frozen? ⟨B, 0, none⟩ = false ∧ RowM w B ks w3 (U.setCell ⟨B, 0, none⟩ v1) v1 ys ∧ KeepsB ks W (U.setCell ⟨B, 0, none⟩ v1) ∧
   (∀ (k : Nat) (o : Obj), W.heap[k]? = some o → o.isCells = false → k ≠ B → (U.setCell ⟨B, 0, none⟩ v1).heap[k]? = some o) := by
 have hS := h.hS
 have ne : ∀ k, k < w3.heap.size → some k ≠ v.ownBlock := fun k hk e => by have := (h.own_cells k e.symm).1; omega
 have eB : U.heap[B]? = W.heap[B]? := hg.block B (by omega) (ne B hB3)
 have c1 : U.cell? ⟨B, 0, none⟩ = some v := (cell_of eB).trans h.c
 have z1 : U.frozen? ⟨B, 0, none⟩ = false := (frozen_of eB).trans h.z
 have hkb : KeepsB ks W (U.setCell ⟨B, 0, none⟩ v1) := fun k hk => by
  have hk3 := hks k hk
  have hne : k ≠ B := fun e => hBk (e ▸ hk)
  exact (Below.heap_setCell U ⟨B, 0, none⟩ v1 k hne).trans (hg.block k (by omega) (ne k hk3))
 refine ⟨c1, z1, ⟨World.cell?_setCell_same _ _ _ c1, by rw [World.frozen?_setCell]; exact z1, Kd.R_far hr (fun k hk => by show k ≠ B; omega) _, hb.setCell hwB _, ?_, h.hK.trans hkb⟩, hkb, fun k o hk ho hne => ?_⟩
 · have := hg.size; simp; omega
 ·
  refine (Below.heap_setCell U ⟨B, 0, none⟩ v1 k hne).trans ((hg.block k (Array.getElem?_eq_some_iff.1 hk).1 (fun e => ?_)).trans hk)
  obtain ⟨_, _, cells, q, hc⟩ := h.own_cells k e.symm
  rw [hk] at hc
  injection hc with hc
  subst hc
  exact absurd ho (by simp [Obj.isCells])
theorem keepsFrom {P : Nat} (hB3 : B < P) (h : ∀ (k : Nat) (o : Obj), W.heap[k]? = some o → o.isCells = false → k ≠ B → U.heap[k]? = some o) (hs : W.heap.size ≤ U.heap.size) : KeepsFrom P W U :=
 ⟨hs, fun k o hk ho hn => h k o ho hn (by omega)⟩
end RowM
theorem keepsFrom_below {P : Nat} {W U : World} (hb : Below W.heap.size W U) : KeepsFrom P W U :=
 ⟨hb.size, fun k o _ hk _ => (hb.block k (Array.getElem?_eq_some_iff.1 hk).1).trans hk⟩
theorem ent_bytes {n : Nat} (h : n ≤ 64) : (n + 1) * 16 ≤ 140737488355328 := by omega
theorem cget_begins (w4_ : World) (m kx gx F : Nat) (s : ByteArray) (X : List Int) (w5 : World) (hgx : gx < w4_.heap.size) (hF : F < w4_.heap.size) (hcF : w4_.cell? ⟨F, 0, none⟩ = some (.string s)) (hcx : ∀ j, j < 3 * m → w4_.cell? ⟨gx, j, none⟩ = some (.int .i64 (rd X (j : Int))))
  (hw : w5 = ((w4_.alloc (.cells #[.slice none 0 0] 54)).alloc (.cells #[.slice (some ⟨gx, 0, none⟩) (3 * m) kx] 48)).alloc (.cells #[.int .i64 ((3 : Nat) : Int)] 3)) :
  RowM w4_ w4_.heap.size [w4_.heap.size + 1, w4_.heap.size + 1 + 1, gx, F] w5 w5 (.slice none 0 0) [] ∧ w5.cell? ⟨w4_.heap.size + 1, 0, none⟩ = some (.slice (some ⟨gx, 0, none⟩) (3 * m) kx) ∧ w5.cell? ⟨w4_.heap.size + 1 + 1, 0, none⟩ = some (.int .i64 ((3 : Nat) : Int)) ∧
   (∀ j, j < 3 * m → w5.cell? ⟨gx, j, none⟩ = some (.int .i64 (rd X (j : Int)))) ∧ w5.heap.size = w4_.heap.size + 3 ∧ w5.cell? ⟨F, 0, none⟩ = some (.string s) := by
 have hb : Below w4_.heap.size w4_ w5 := by
  rw [hw]; exact (((Below.refl _ w4_).alloc (Nat.le_refl _) _).alloc (by simp) _).alloc (by simp; omega) _
 have hz : w5.heap.size = w4_.heap.size + 3 := by rw [hw]; simp
 refine ⟨⟨?_, ?_, Kd.R_nil _ _ _ _ _, hb, Nat.le_refl _, KeepsB.refl _ _⟩, ?_, ?_, fun j hj => (hb.cell hgx).trans (hcx j hj), hz, (hb.cell hF).trans hcF⟩
 · rw [hw]; simp [go_sem]
 · rw [hw]; simp [go_sem]
 · rw [hw]; simp [go_sem]
 · rw [hw]; simp [go_sem]
theorem cget_final {w W W2 : World} {D : Nat} {v : Value} {xs : List S50} (hr : Kd.R k50 50 W2 w.heap.size (fun _ => True) v xs) (hB : Below w.heap.size w W) (hb : Below W.heap.size W W2) (hd : W.heap[D]? = some (.deferred (some []))) (hwD : w.heap.size ≤ D) :
  Kd.R k50 50 (W2.putObj D (.deferred none)) w.heap.size (fun _ => True) v xs ∧ Below w.heap.size w (W2.putObj D (.deferred none)) ∧ W2.heap[D]? = some (.deferred (some [])) := by
 have hd2 : W2.heap[D]? = some (.deferred (some [])) := (hb.block D (blk_lt hd)).trans hd
 have hB2 := hB.trans (hb.mono hB.size)
 have hg := grownBy_putObj' W2 D (.deferred none)
 refine ⟨Kd.R_mono (Kd.R_grown (Kd.R_bound hr) hg (fun k hk e => ?_)) (fun _ _ => trivial), hB2.grown hg hB2.size (fun k e => by cases e; exact hwD), hd2⟩
 obtain ⟨_, _, _, q, _, cells, hc⟩ := hk
 cases e
 rw [hd2] at hc
 injection hc with hc
 cases hc
theorem getM_form {s : ByteArray} (h : 4 ≤ s.size) (hf : w2 s 0 ≠ 0) : getM s = ([], 5) := by
 unfold getM
 rw [if_neg (by omega), if_pos hf]
theorem getM_long {s : ByteArray} (h : 4 ≤ s.size) (hf : w2 s 0 = 0) (hn : 64 < w2 s 2) : getM s = ([], 7) := by
 unfold getM
 rw [if_neg (by omega), if_neg (by omega), if_pos hn]
theorem getM_more {s : ByteArray} {m : Nat} (h : 4 ≤ s.size) (hf : w2 s 0 = 0) (hn : w2 s 2 = (m : Int)) (hm : m ≤ 64) (hs : ¬ 4 + 8 * m ≤ s.size) : getM s = ([], 4) := by
 unfold getM
 rw [if_neg (by omega), if_neg (by omega), if_neg (by omega), if_pos (by omega)]
theorem getM_of {s : ByteArray} {m : Nat} (h : 4 ≤ s.size) (hf : w2 s 0 = 0) (hn : w2 s 2 = (m : Int)) (hm : m ≤ 64) (hs : 4 + 8 * m ≤ s.size) : getM s = if (bestS (entsM s m)).2 = false then ([], 6) else readM (s.extract (bestS (entsM s m)).1.f1.toNat s.size) := by
 unfold getM
 rw [if_neg (by omega), if_neg (by omega), if_neg (by omega), if_neg (by omega), hn, Int.toNat_natCast]
theorem bestS_mem : ∀ (l : List S41) (o : S41 × Bool), (l.foldl pickS o) = o ∨ ∃ x ∈ l, l.foldl pickS o = (x, true)
 | [], o => .inl rfl
 | x :: l, o => by
  rw [List.foldl_cons]
  have hp : pickS o x = (x, true) ∨ pickS o x = o := by
   unfold pickS
   split
   · exact .inl rfl
   · exact .inr rfl
  rcases bestS_mem l (pickS o x) with h | ⟨y, hy, h⟩
  ·
   rcases hp with hp | hp
   · exact .inr ⟨x, List.mem_cons_self, by rw [h, hp]⟩
   · exact .inl (by rw [h, hp])
  · exact .inr ⟨y, List.mem_cons_of_mem _ hy, h⟩
theorem bestS_true {l : List S41} {x : S41} (h : bestS l = (x, true)) : x ∈ l := by
 rcases bestS_mem l (⟨0, 0⟩, false) with h1 | ⟨y, hy, h1⟩
 · unfold bestS at h; rw [h1] at h; exact absurd (Prod.mk.inj h).2 (by decide)
 · unfold bestS at h; rw [h1] at h; rw [← (Prod.mk.inj h).1]; exact hy
theorem best_at {s : ByteArray} {m : Nat} {x : S41} (h : bestS (entsM s m) = (x, true)) : 0 ≤ x.f1 ∧ x.f1.toNat + 2 ≤ s.size := by
 have hx := bestS_true h
 unfold entsM at hx
 rw [List.mem_filter] at hx
 obtain ⟨h1, h2⟩ := hx
 obtain ⟨i, _, rfl⟩ := List.mem_map.1 h1
 unfold mayM at h2
 simp only [Bool.and_eq_true, decide_eq_true_eq] at h2
 exact ⟨(w4_bd s (8 + 8 * i)).1, h2.2.1⟩
theorem Formats.below {W U : World} {bm m1 m2 : Nat} (h : Formats W bm m1 m2) (hb : Below W.heap.size W U) : Formats U bm m1 m2 :=
 ⟨(hb.block _ (blk_lt' h.m)).trans h.m, (hb.block _ (blk_lt' h.a)).trans h.a, (hb.block _ (blk_lt' h.c)).trans h.c⟩
theorem look_form (f : Int) : ∃ (v0 : Value) (v1 : Nat → Nat → Value) (a b : Int), v0.oneCell' = true ∧ (∀ m1 m2, (v1 m1 m2).oneCell' = true) ∧
  ∀ (W : World) (bm m1 m2 : Nat), Formats W bm m1 m2 → (Instr.lookup 45 (.map (some bm)) (.int .i64 f) true).run Try.prog W = .ok (.tuple #[.agg #[v0, v1 m1 m2, .int .i64 a, .int .i64 b], .bool (isFmt f)]) W := by
 have hrun : ∀ (W : World) (bm m1 m2 i : Nat) (v : Value), Formats W bm m1 m2 → fmtOf f m1 m2 = some (i, v) → (Instr.lookup 45 (.map (some bm)) (.int .i64 f) true).run Try.prog W = .ok (.tuple #[v, .bool true]) W := fun W bm m1 m2 i v hF hx =>
  look_run W bm _ _ f hF.m (some (i, v)) ((find_fmt f m1 m2).trans (congrArg some hx))
 have hrun0 : ∀ (W : World) (bm m1 m2 : Nat), Formats W bm m1 m2 → fmtOf f m1 m2 = none → (Instr.lookup 45 (.map (some bm)) (.int .i64 f) true).run Try.prog W = .ok (.tuple #[.agg #[.nilFunc, .nilFunc, .int .i64 0, .int .i64 0], .bool false]) W := fun W bm m1 m2 hF hx =>
  look_run W bm _ _ f hF.m none ((find_fmt f m1 m2).trans (congrArg some hx))
 by_cases h : isFmt f = true
 case neg =>
  have h : isFmt f = false := by cases hh : isFmt f with | true => exact absurd hh h | false => rfl
  rw [h]
  exact ⟨.nilFunc, fun _ _ => .nilFunc, 0, 0, rfl, fun _ _ => rfl, fun W bm m1 m2 hF => hrun0 W bm m1 m2 hF (fmt_not h m1 m2)⟩
 rw [h]
 have hh := of_decide_eq_true h
 by_cases h0 : f = 0
 · exact ⟨_, fun _ _ => _, _, _, rfl, fun _ _ => rfl, fun W bm m1 m2 hF => hrun W bm m1 m2 0 fmt0 hF (by unfold fmtOf; rw [if_pos h0])⟩
 by_cases h1 : f = 4
 · exact ⟨_, fun _ _ => _, _, _, rfl, fun _ _ => rfl, fun W bm m1 m2 hF => hrun W bm m1 m2 1 fmt4 hF (by unfold fmtOf; rw [if_neg h0, if_pos h1])⟩
 by_cases h2 : f = 6
 · exact ⟨_, fun _ _ => _, _, _, rfl, fun _ _ => rfl, fun W bm m1 m2 hF => hrun W bm m1 m2 2 fmt6 hF (by unfold fmtOf; rw [if_neg h0, if_neg h1, if_pos h2])⟩
 by_cases h3 : f = 12
 · exact ⟨_, fun m1 _ => .func (.func 37) #[] #[.pointer (some ⟨m1, 0, none⟩)], _, _, rfl, fun _ _ => rfl, fun W bm m1 m2 hF => hrun W bm m1 m2 3 (fmtG m1) hF (by unfold fmtOf; rw [if_neg h0, if_neg h1, if_neg h2, if_pos h3])⟩
 · exact ⟨_, fun _ m2 => .func (.func 37) #[] #[.pointer (some ⟨m2, 0, none⟩)], _, _, rfl, fun _ _ => rfl, fun W bm m1 m2 hF => hrun W bm m1 m2 4 (fmtG m2) hF (by unfold fmtOf; rw [if_neg h0, if_neg h1, if_neg h2, if_neg h3, if_pos (by omega)])⟩
theorem may_snoc {m : Nat} (s : ByteArray) (X : List Int) (pre : List (Fin m)) (x : Fin m) : ((pre ++ [x]).map (fun x => entX X x.1)).filter (mayM s) = (pre.map (fun x => entX X x.1)).filter (mayM s) ++ (if mayM s (entX X x.1) = true then [entX X x.1] else []) := by
 rw [List.map_append, List.filter_append]
 congr 1
 show List.filter (mayM s) [entX X x.1] = _
 cases h : mayM s (entX X x.1) with
 | true => rw [if_pos rfl]; exact List.filter_cons_of_pos h
 | false => rw [if_neg Bool.false_ne_true]; exact List.filter_cons_of_neg (by rw [h]; exact Bool.false_ne_true)
theorem may_len {m : Nat} (s : ByteArray) (X : List Int) (pre : List (Fin m)) : ((pre.map (fun x => entX X x.1)).filter (mayM s)).length ≤ pre.length := by
 refine Nat.le_trans (List.length_filter_le _ _) ?_
 rw [List.length_map]
 exact Nat.le_refl _
end Go.Proofs.Ytejdflndgnpkcaa.P
end
section
namespace Go.Proofs.Ytejdflndgnpkcaa.P
open Go.RowKit Go.Shelf Go.Proofs.YtejdflndgnpkcaaW.PrintWords Go.Proofs.YtejdflndgnpkcaaW.PrintLast Go.Proofs.YtejdflndgnpkcaaW.PrintMore
attribute [local go_sem] Oper.semAt_some
attribute [local go_sem] max2_int min2_int max_two min_two max_three min_three max_four min_four
set_option maxRecDepth 100000 in
set_option maxHeartbeats 2000000 in
theorem cget_short (s : ByteArray) (w : World) (h : s.size < 4) :
  Calls Try.prog 9 #[.string s] w fun e w' => ∃ v0_ : Value, e = .returned (.tuple #[v0_, .int .i64 4]) ∧ Kd.R k50 50 w' w.heap.size (fun _ => True) v0_ [] ∧ Below w.heap.size w w' := by
 have hg0 := get_two s 0
 rw [if_neg (by omega)] at hg0
 have HG := Lib.hid (show getN s 0 [2, 2] = ([], 4) from hg0)
 clear h hg0
 refine (callsIn_wide (n := 9)).1 (callsIn_of_wp_marks Try.func9 rfl trivial (wpIn_wide.2 ?_) rfl)
 simp only [Try.ntmps9, List.size_toArray, List.length_cons, List.length_nil, Nat.reduceAdd, Nat.reduceSub, Array.replicate_succ, Array.replicate_zero, List.push_toArray, List.append_toArray, List.nil_append, List.cons_append]
 go_wp2_with fail
 have C1 := lit_C (w.alloc (.cells #[.string s] 9)) [2, 2] (by decide)
 rw [World.size_alloc] at C1
 refine (bin_Get.calls s 0 _ 2 [2, 2] [] 4 _ C1 (Nat.le_refl _) (by unfold bin_Get.f; rw [if_pos (by decide), HG.out])).mono ?_
 rintro e w1 ⟨v, rfl, hr, hb⟩
 have B1 := Lib.hid ((below_alloc (below_alloc (Below.refl w.heap.size w) _) _).trans (hb.mono (by simp; omega)))
 clear hr hb C1
 go_wp2
 exact ⟨_, results_tmp2 rfl _ _ _, _, rfl, Kd.R_nil _ _ _ _ _, B1.out⟩
theorem st_run (W : World) (a : Addr) (v u : Value) (hv : v.oneCell' = true) (hc : W.cell? a = some u) (hf : W.frozen? a = false) : (store a v).run Try.prog W = .ok () (W.setCell a v) := by
 rw [run_store _ _ _ _ _ hv, hc]
 simp [hf]
theorem store2_run {oi : Oper} {a : Act} {w : World} {g : Nat} {p v : Tmp} {e : TypeId} (x y : Int) {u0 u1 : Value} (hop : oi.op = .store 59 (.tmp p) (.tmp v)) (hp : a.eval (.tmp p) = .pointer (some ⟨g, 0, none⟩)) (hv : a.eval (.tmp v) = .agg #[.int .i64 x, .int .i64 y])
  (hg : w.heap[g]? = some (.cells #[u0, u1] e (0, 0))) :
  (execOp a.eval oi).run Try.prog w = .ok .skip ((w.setCell ⟨g, 0, none⟩ (.int .i64 x)).setCell ⟨g, 1, none⟩ (.int .i64 y)) := by
 have c0 : w.cell? ⟨g, 0, none⟩ = some u0 := (blk_cell hg 0).trans rfl
 have c1 : w.cell? ⟨g, 1, none⟩ = some u1 := (blk_cell hg 1).trans rfl
 have f0 := Lib.frozen_of_heap hg 0
 have f1 := Lib.frozen_of_heap hg 1
 have hsz : ∀ w : World, (sizeOf 59).run Try.prog w = .ok 2 w := fun w => by kernel_rfl
 unfold execOp
 rw [hop]
 dsimp only
 rw [hp, hv]
 go_simp
theorem store4_run {oi : Oper} {a : Act} {w : World} {g : Nat} {p v : Tmp} {e : TypeId} (v0 v1 : Value) (x y : Int) (o0 : v0.oneCell' = true) (o1 : v1.oneCell' = true) {u0 u1 u2 u3 : Value} (hop : oi.op = .store 43 (.tmp p) (.tmp v)) (hp : a.eval (.tmp p) = .pointer (some ⟨g, 0, none⟩)) (hv : a.eval (.tmp v) = .agg #[v0, v1, .int .i64 x, .int .i64 y])
  (hg : w.heap[g]? = some (.cells #[u0, u1, u2, u3] e (0, 0))) :
  (execOp a.eval oi).run Try.prog w = .ok .skip ((((w.setCell ⟨g, 0, none⟩ v0).setCell ⟨g, 1, none⟩ v1).setCell ⟨g, 2, none⟩ (.int .i64 x)).setCell ⟨g, 3, none⟩ (.int .i64 y)) := by
 have h1 := blk_set hg 0 v0
 have h2 := blk_set h1 1 v1
 have s0 := st_run w ⟨g, 0, none⟩ v0 u0 o0 ((blk_cell hg 0).trans rfl) (Lib.frozen_of_heap hg 0)
 have s1 := st_run _ ⟨g, 1, none⟩ v1 u1 o1 ((blk_cell h1 1).trans (by simp)) (Lib.frozen_of_heap h1 1)
 have s2 := st_run _ ⟨g, 2, none⟩ (.int .i64 x) u2 rfl ((blk_cell h2 2).trans (by simp)) (Lib.frozen_of_heap h2 2)
 have h3 := blk_set h2 2 (.int .i64 x)
 have s3 := st_run _ ⟨g, 3, none⟩ (.int .i64 y) u3 rfl ((blk_cell h3 3).trans (by simp)) (Lib.frozen_of_heap h3 3)
 have c2 : w.cell? ⟨g, 2, none⟩ = some u2 := (blk_cell hg 2).trans rfl
 have c3 : w.cell? ⟨g, 3, none⟩ = some u3 := (blk_cell hg 3).trans rfl
 have f2 := Lib.frozen_of_heap hg 2
 have f3 := Lib.frozen_of_heap hg 3
 have hsz : ∀ w : World, (sizeOf 43).run Try.prog w = .ok 4 w := fun w => by kernel_rfl
 unfold execOp
 rw [hop]
 dsimp only
 rw [hp, hv]
 go_simp
theorem lookop_run {oi : Oper} {a : Act} {w : World} {p q : Tmp} {bm : Nat} {f : Int} {v : Value} (hop : oi.op = .lookup 45 (.tmp p) (.tmp q) true) (hp : a.eval (.tmp p) = .map (some bm)) (hq : a.eval (.tmp q) = .int .i64 f)
  (hl : (Instr.lookup 45 (.map (some bm)) (.int .i64 f) true).run Try.prog w = .ok v w) : (execOp a.eval oi).run Try.prog w = .ok (.value v) w := by
 unfold execOp
 rw [hop]
 dsimp only
 rw [hp, hq]
 simp [hl, Result.andThen]
theorem put2_block {W : World} {g : Nat} {u0 u1 : Value} {e : TypeId} (hg : W.heap[g]? = some (.cells #[u0, u1] e (0, 0))) (v0 v1 : Value) : ((W.setCell ⟨g, 0, none⟩ v0).setCell ⟨g, 1, none⟩ v1).heap[g]? = some (.cells #[v0, v1] e (0, 0)) := by
 have h := blk_set (blk_set hg 0 v0) 1 v1
 simpa using h
set_option maxRecDepth 100000 in
set_option maxHeartbeats 16000000 in
theorem cget_form (s : ByteArray) (w : World) (h : 4 ≤ s.size) (hform : w2 s 0 ≠ 0) (r : List S50 × Int) (hr : ([], 5) = r) :
  Calls Try.prog 9 #[.string s] w fun e w' => ∃ v0_ : Value, e = .returned (.tuple #[v0_, .int .i64 r.2]) ∧ Kd.R k50 50 w' w.heap.size (fun _ => True) v0_ r.1 ∧ Below w.heap.size w w' := by
 have hg0 := get_two s 0
 rw [if_pos (by omega)] at hg0
 have HG := Lib.hid (show getN s 0 [2, 2] = ([w2 s 0, w2 s 2], 0) from hg0)
 obtain ⟨f, hf⟩ : ∃ f, f = w2 s 0 := ⟨_, rfl⟩
 obtain ⟨n, hn⟩ : ∃ n, n = w2 s 2 := ⟨_, rfl⟩
 have hnb := w2_bd s 2
 rw [← hn] at hnb
 have HF := Lib.hid hf
 have HN := Lib.hid hn
 have HNB := Lib.hid hnb
 have HS := Lib.hid h
 have HR := Lib.hid hr
 rw [← hf, ← hn] at HG
 clear hg0 hf hn hnb h hr
 refine (callsIn_wide (n := 9)).1 (callsIn_of_wp_marks Try.func9 rfl trivial (wpIn_wide.2 ?_) rfl)
 simp only [Try.ntmps9, List.size_toArray, List.length_cons, List.length_nil, Nat.reduceAdd, Nat.reduceSub, Array.replicate_succ, Array.replicate_zero, List.push_toArray, List.append_toArray, List.nil_append, List.cons_append]
 go_wp2_with fail
 have C1 := lit_C (w.alloc (.cells #[.string s] 9)) [2, 2] (by decide)
 rw [World.size_alloc] at C1
 refine (bin_Get.calls s 0 _ 2 [2, 2] [f, n] 0 _ C1 (Nat.le_refl _) (by unfold bin_Get.f; rw [if_pos (by decide), HG.out])).mono ?_
 rintro e w1 ⟨v, rfl, hr, hb⟩
 have B1 := Lib.hid ((below_alloc (below_alloc (Below.refl w.heap.size w) _) _).trans (hb.mono (by simp; omega)))
 obtain ⟨g0, k0, rfl, hg1, hg2, hk1, hk2, hcs⟩ := row_block hr (by simp)
 have hlen : ([f, n] : List Int).length = 2 := rfl
 rw [hlen] at hk1 hcs ⊢
 have x0 : w1.cell? ⟨g0, 0, none⟩ = some (.int .i64 f) := (hcs 0 (by decide)).trans rfl
 have x1 : w1.cell? ⟨g0, 1, none⟩ = some (.int .i64 n) := (hcs 1 (by decide)).trans rfl
 have hb0 : ((w.alloc (.cells #[.string s] 9)).alloc (.cells (([2, 2] : List Int).map (Value.int .i64)).toArray 3)).cell? ⟨w.heap.size, 0, none⟩ = some (.string s) := by simp [go_sem]
 have xs : w1.cell? ⟨w.heap.size, 0, none⟩ = some (.string s) := (hb.cell (by simp; omega)).trans hb0
 clear hr hb C1 hg1 hk2 hcs hlen hb0
 have d1 : (f != 0) = true := by rw [HF.out]; simpa using hform
 have HRE := Lib.hid HR.out
 clear hform
 go_wp2
 rw [← HRE.out]
 exact ⟨_, results_tmp2 rfl _ _ _, _, rfl, Kd.R_nil _ _ _ _ _, B1.out⟩
set_option maxRecDepth 100000 in
set_option maxHeartbeats 16000000 in
theorem cget_long (s : ByteArray) (w : World) (h : 4 ≤ s.size) (hform : w2 s 0 = 0) (hlong : 64 < w2 s 2) (r : List S50 × Int) (hr : ([], 7) = r) :
  Calls Try.prog 9 #[.string s] w fun e w' => ∃ v0_ : Value, e = .returned (.tuple #[v0_, .int .i64 r.2]) ∧ Kd.R k50 50 w' w.heap.size (fun _ => True) v0_ r.1 ∧ Below w.heap.size w w' := by
 have hg0 := get_two s 0
 rw [if_pos (by omega)] at hg0
 have HG := Lib.hid (show getN s 0 [2, 2] = ([w2 s 0, w2 s 2], 0) from hg0)
 obtain ⟨f, hf⟩ : ∃ f, f = w2 s 0 := ⟨_, rfl⟩
 obtain ⟨n, hn⟩ : ∃ n, n = w2 s 2 := ⟨_, rfl⟩
 have hnb := w2_bd s 2
 rw [← hn] at hnb
 have HF := Lib.hid hf
 have HN := Lib.hid hn
 have HNB := Lib.hid hnb
 have HS := Lib.hid h
 have HR := Lib.hid hr
 rw [← hf, ← hn] at HG
 clear hg0 hf hn hnb h hr
 refine (callsIn_wide (n := 9)).1 (callsIn_of_wp_marks Try.func9 rfl trivial (wpIn_wide.2 ?_) rfl)
 simp only [Try.ntmps9, List.size_toArray, List.length_cons, List.length_nil, Nat.reduceAdd, Nat.reduceSub, Array.replicate_succ, Array.replicate_zero, List.push_toArray, List.append_toArray, List.nil_append, List.cons_append]
 go_wp2_with fail
 have C1 := lit_C (w.alloc (.cells #[.string s] 9)) [2, 2] (by decide)
 rw [World.size_alloc] at C1
 refine (bin_Get.calls s 0 _ 2 [2, 2] [f, n] 0 _ C1 (Nat.le_refl _) (by unfold bin_Get.f; rw [if_pos (by decide), HG.out])).mono ?_
 rintro e w1 ⟨v, rfl, hr, hb⟩
 have B1 := Lib.hid ((below_alloc (below_alloc (Below.refl w.heap.size w) _) _).trans (hb.mono (by simp; omega)))
 obtain ⟨g0, k0, rfl, hg1, hg2, hk1, hk2, hcs⟩ := row_block hr (by simp)
 have hlen : ([f, n] : List Int).length = 2 := rfl
 rw [hlen] at hk1 hcs ⊢
 have x0 : w1.cell? ⟨g0, 0, none⟩ = some (.int .i64 f) := (hcs 0 (by decide)).trans rfl
 have x1 : w1.cell? ⟨g0, 1, none⟩ = some (.int .i64 n) := (hcs 1 (by decide)).trans rfl
 have hb0 : ((w.alloc (.cells #[.string s] 9)).alloc (.cells (([2, 2] : List Int).map (Value.int .i64)).toArray 3)).cell? ⟨w.heap.size, 0, none⟩ = some (.string s) := by simp [go_sem]
 have xs : w1.cell? ⟨w.heap.size, 0, none⟩ = some (.string s) := (hb.cell (by simp; omega)).trans hb0
 clear hr hb C1 hg1 hk2 hcs hlen hb0
 have d1 : (f != 0) = false := by rw [HF.out, hform]; rfl
 have d2 : decide ((64 : Int) < n) = true := decide_eq_true (by rw [HN.out]; exact hlong)
 have HRE := Lib.hid HR.out
 clear hform hlong
 go_wp2
 rw [← HRE.out]
 exact ⟨_, results_tmp2 rfl _ _ _, _, rfl, Kd.R_nil _ _ _ _ _, B1.out⟩
set_option maxRecDepth 100000 in
set_option maxHeartbeats 16000000 in
theorem cget_main (s : ByteArray) (w : World) (h : 4 ≤ s.size) (hform : w2 s 0 = 0) (m : Nat) (hm : w2 s 2 = (m : Int)) (hm2 : m ≤ 64) (r : List S50 × Int) (hr : getM s = r) :
  Calls Try.prog 9 #[.string s] w fun e w' => ∃ v0_ : Value, e = .returned (.tuple #[v0_, .int .i64 r.2]) ∧ Kd.R k50 50 w' w.heap.size (fun _ => True) v0_ r.1 ∧ Below w.heap.size w w' := by
 have hg0 := get_two s 0
 rw [if_pos (by omega)] at hg0
 have HG := Lib.hid (show getN s 0 [2, 2] = ([w2 s 0, w2 s 2], 0) from hg0)
 obtain ⟨f, hf⟩ : ∃ f, f = w2 s 0 := ⟨_, rfl⟩
 obtain ⟨n, hn⟩ : ∃ n, n = w2 s 2 := ⟨_, rfl⟩
 have hnb := w2_bd s 2
 rw [← hn] at hnb
 have HF := Lib.hid hf
 have HN := Lib.hid hn
 have HNB := Lib.hid hnb
 have HS := Lib.hid h
 have HR := Lib.hid hr
 rw [← hf, ← hn] at HG
 clear hg0 hf hn hnb h hr
 refine (callsIn_wide (n := 9)).1 (callsIn_of_wp_marks Try.func9 rfl trivial (wpIn_wide.2 ?_) rfl)
 simp only [Try.ntmps9, List.size_toArray, List.length_cons, List.length_nil, Nat.reduceAdd, Nat.reduceSub, Array.replicate_succ, Array.replicate_zero, List.push_toArray, List.append_toArray, List.nil_append, List.cons_append]
 go_wp2_with fail
 have C1 := lit_C (w.alloc (.cells #[.string s] 9)) [2, 2] (by decide)
 rw [World.size_alloc] at C1
 refine (bin_Get.calls s 0 _ 2 [2, 2] [f, n] 0 _ C1 (Nat.le_refl _) (by unfold bin_Get.f; rw [if_pos (by decide), HG.out])).mono ?_
 rintro e w1 ⟨v, rfl, hr, hb⟩
 have B1 := Lib.hid ((below_alloc (below_alloc (Below.refl w.heap.size w) _) _).trans (hb.mono (by simp; omega)))
 obtain ⟨g0, k0, rfl, hg1, hg2, hk1, hk2, hcs⟩ := row_block hr (by simp)
 have hlen : ([f, n] : List Int).length = 2 := rfl
 rw [hlen] at hk1 hcs ⊢
 have x0 : w1.cell? ⟨g0, 0, none⟩ = some (.int .i64 f) := (hcs 0 (by decide)).trans rfl
 have x1 : w1.cell? ⟨g0, 1, none⟩ = some (.int .i64 n) := (hcs 1 (by decide)).trans rfl
 have hb0 : ((w.alloc (.cells #[.string s] 9)).alloc (.cells (([2, 2] : List Int).map (Value.int .i64)).toArray 3)).cell? ⟨w.heap.size, 0, none⟩ = some (.string s) := by simp [go_sem]
 have xs : w1.cell? ⟨w.heap.size, 0, none⟩ = some (.string s) := (hb.cell (by simp; omega)).trans hb0
 clear hr hb C1 hg1 hk2 hcs hlen hb0
 have d1 : (f != 0) = false := by rw [HF.out, hform]; rfl
 have d2 : decide ((64 : Int) < n) = false := decide_eq_false (by rw [HN.out, hm]; omega)
 have HM := Lib.hid (show n = (m : Int) ∧ m ≤ 64 from ⟨by rw [HN.out, hm], hm2⟩)
 obtain ⟨X, e1, hgx⟩ : ∃ X e1, getN s 4 (repN [2, 2, 4] m) = (X, e1) := ⟨_, _, rfl⟩
 have HGX := Lib.hid hgx
 have HFM := Lib.hid hform
 clear hform hm hm2 hgx
 go_wp2_with fail
 refine wp_mono (Q := Exit.then ?_ (fun _ _ _ => False)) ?_ ?_
 rotate_left 2
 ·
  intro e a w h
  cases e with
  | normal => exact h
  | _ => exact (show False from h).elim
 refine start_ (n := 12) (S := fun u => u.cell? ⟨w.heap.size, 0, none⟩ = some (.string s) ∧ u.cell? ⟨g0, 1, none⟩ = some (.int .i64 n)) (ds := []) #[false, false, false, false, false, false, false, false, false, false, false, false] (by kernel_rfl) rfl rfl ⟨xs, x1⟩ (fun hHeld => ?_)
 have hlg := World.block_lt_of_cell? _ _ x1
 have hls := World.block_lt_of_cell? _ _ xs
 dsimp only at hlg hls
 clear x0 x1 xs
 obtain ⟨u0, hu0⟩ : ∃ u0, u0 = w1.drew := ⟨_, rfl⟩
 have HU0 := Lib.hid (show Below w1.heap.size w1 u0 by rw [hu0]; exact below_drew1 (Below.refl _ _))
 have HZ0 := Lib.hid (show u0.heap.size = w1.heap.size by rw [hu0]; rfl)
 have HLG := Lib.hid (show g0 < u0.heap.size by rw [hu0]; exact hlg)
 have HLS := Lib.hid (show w.heap.size < u0.heap.size by rw [hu0]; exact hls)
 rw [← hu0] at hHeld ⊢
 clear hu0 hlg hls
 refine pS_ 2 39 ?_
 refine pS_ 3 40 ?_
 refine tS_ 0 37 hHeld ?_
 refine tS_ 4 41 hHeld ?_
 refine oS_ 1 38 (fun K hK => ?_)
 refine vS_ ?_
 refine hK.out _ _ ⟨cell_al _ hHeld.1, cell_al _ hHeld.2⟩ (fun hHeld2 => ?_)
 clear hK K
 refine nS_ ?_
 refine oS_ 5 42 (fun K hK => ?_)
 have C2 := lit_C u0 [2, 2, 4] (by decide)
 have hfr : slices_Repeat.f [2, 2, 4] n = some (repN [2, 2, 4] m) := by
  have := HM.out
  unfold slices_Repeat.f
  rw [this.1, if_pos (by refine ⟨by omega, by omega, by decide, ?_⟩; show 3 * ((m : Nat) : Int).toNat ≤ _; omega), Int.toNat_natCast]
 refine call_ 23 #[.slice (some ⟨u0.heap.size, 0, none⟩) 3 3, .int .i64 n] (by rfl) rfl (by go_simp <;> rfl) ?_
 refine (slices_Repeat.calls _ 3 [2, 2, 4] n _ _ C2 (Nat.le_refl _) hfr).mono ?_
 rintro e w2_ ⟨v, rfl, hr, hb⟩
 refine ⟨_, rfl, ?_⟩
 obtain ⟨A2, k2, rfl⟩ := Kd.R_slice hr
 obtain ⟨_, _, e5, hk2, C3⟩ := Kd.R_reads hr
 injection e5 with e6 e7 e8
 subst e6
 subst e8
 have hb2 : Below u0.heap.size u0 w2_ := (below_alloc (Below.refl u0.heap.size u0) _).trans (hb.mono (by simp))
 have hK2 := hK.out
 clear hK
 have hk_ : w2_.cell? ⟨w.heap.size, 0, none⟩ = some (.string s) ∧ w2_.cell? ⟨g0, 1, none⟩ = some (.int .i64 n) := ⟨(hb2.cell HLS.out).trans hHeld.1, (hb2.cell HLG.out).trans hHeld.2⟩
 refine hK2 _ _ hk_ (fun hHeld3 => ?_)
 clear hK2 hk_ C2 hfr hr hb e7
 have HB2 := Lib.hid hb2
 clear hb2
 refine nS_ ?_
 refine oS_ 6 43 (fun K hK => ?_)
 have hl1 : (repN [2, 2, 4] m).length = 3 * m := by rw [repN_length]; rfl
 refine call_ 22 #[.string s, .int .i64 4, .slice A2 (repN [2, 2, 4] m).length k2] (by rfl) rfl (by go_simp <;> rfl) ?_
 refine (bin_Get.calls s 4 A2 k2 (repN [2, 2, 4] m) X e1 w2_ C3 hk2 (by unfold bin_Get.f; rw [if_pos (by rw [hl1]; have := HM.out; omega), HGX.out])).mono ?_
 rintro e w3_ ⟨v, rfl, hr, hb⟩
 refine ⟨_, rfl, ?_⟩
 have hK2 := hK.out
 clear hK
 have hk_ : w3_.cell? ⟨w.heap.size, 0, none⟩ = some (.string s) ∧ w3_.cell? ⟨g0, 1, none⟩ = some (.int .i64 n) := ⟨(hb.cell (World.block_lt_of_cell? _ _ hHeld3.1)).trans hHeld3.1, (hb.cell (World.block_lt_of_cell? _ _ hHeld3.2)).trans hHeld3.2⟩
 refine hK2 _ _ hk_ (fun hHeld4 => ?_)
 clear hK2 hk_
 have B3 := Lib.hid ((B1.out.trans (HU0.out.mono B1.out.size)).trans (((HB2.out.trans (hb.mono HB2.out.size)).mono (by rw [HZ0.out]; exact B1.out.size))))
 have cS3 := hHeld4.1
 refine nS_ ?_
 refine pS_ 7 36 ?_
 refine pS_ 8 44 ?_
 refine pS_ 9 45 ?_
 refine pS_ 10 6 ?_
 refine pS_ 11 5 ?_
 refine dS_ ?_
 clear hHeld hHeld2 hHeld3 hHeld4 C3 hk2 hl1 hg2 hk1 HU0 HZ0 HLG HLS HB2
 have hrec := get_recs s m HS.out
 rw [HGX.out] at hrec
 by_cases hsz : 4 + 8 * m ≤ s.size
 case neg =>
  rw [if_neg hsz] at hrec
  obtain ⟨rfl, rfl⟩ := Prod.mk.inj hrec
  obtain ⟨A3, k3, rfl⟩ := Kd.R_slice hr
  have HRE := Lib.hid (HR.out.symm.trans (getM_more HS.out HFM.out (by rw [← HN.out]; exact HM.out.1) HM.out.2 hsz))
  clear hrec hr hb hsz
  go_wp2
  rw [HRE.out]
  exact ⟨_, results_tmp2 rfl _ _ _, _, rfl, Kd.R_nil _ _ _ _ _, B3.out⟩
 rw [if_pos hsz] at hrec
 obtain ⟨hX, rfl⟩ := Prod.mk.inj hrec
 have HX := Lib.hid hX
 have HXL := Lib.hid (show X.length = 3 * m by rw [hX]; simp)
 have hres : (if (bestS (entsM s m)).2 = false then ([], 6) else readM (s.extract (bestS (entsM s m)).1.f1.toNat s.size)) = r := by
  rw [← HR.out, getM_of HS.out HFM.out (by rw [← HN.out]; exact HM.out.1) HM.out.2 hsz]
 have HRES := Lib.hid hres
 have HSZ := Lib.hid hsz
 have hcS := World.block_lt_of_cell? _ _ cS3
 dsimp only at hcS
 have HCS := Lib.hid cS3
 have HCL := Lib.hid hcS
 clear hrec hX hsz hres cS3 hcS
 by_cases hm0 : m = 0
 ·
  obtain ⟨A3, k3, rfl⟩ := Kd.R_slice hr
  have hx0 : X.length = 0 := by rw [HXL.out, hm0]
  rw [hx0]
  have HM0 := Lib.hid hm0
  clear hr hb hx0 hm0
  go_wp2_with fail
  have hch := chunk_calls A3 0 k3 3 (by decide) (by decide) (w3_.alloc (.cells #[.slice none 0 0] 54))
  refine hch.mono ?_
  clear hch
  rintro x w5 ⟨rfl, hw5⟩
  have hb5 : Below w3_.heap.size w3_ w5 := by rw [hw5]; exact (((Below.refl _ w3_).alloc (Nat.le_refl _) _).alloc (by simp) _).alloc (by simp; omega) _
  have hz5 : w5.heap.size = w3_.heap.size + 3 := by rw [hw5]; simp
  have c5 : w5.cell? ⟨w3_.heap.size + 1, 0, none⟩ = some (.slice A3 0 k3) := by rw [hw5]; simp [go_sem]
  have c6 : w5.cell? ⟨w3_.heap.size, 0, none⟩ = some (.slice none 0 0) := by rw [hw5]; simp [go_sem]
  have hs4 : (w3_.alloc (.cells #[.slice none 0 0] 54)).heap.size = w3_.heap.size + 1 := by simp
  simp only [hs4]
  have HB5 := Lib.hid hb5
  have HZ5 := Lib.hid hz5
  have HC5 := Lib.hid c5
  have HC6 := Lib.hid c6
  clear hb5 hz5 c5 c6 hs4 hw5
  go_wp2_with fail
  refine (wpIn_wide (n := 9)).1 ?_
  refine wpIn_rangeFunc_ownG (F := Fence.wide) (n := 9) rfl (by decide) (gf := 51) (lb := #[.pointer (some ⟨w3_.heap.size + 1, 0, none⟩), .pointer (some ⟨w3_.heap.size + 1 + 1, 0, none⟩)]) rfl trivial (enters_of Try.func51 (by kernel_rfl) rfl)
   (chunk0_stops 8 (w3_.heap.size + 1) (w3_.heap.size + 1 + 1) A3 k3 [w3_.heap.size] w5 (by have := HZ5.out; omega) HC5.out (fun _ => #[.slice none 0 0]))
   (fun h k => h.trans k) (keepsB_b (fun k hk => by have := HZ5.out; simp at hk; omega)) (Below.refl _ _) (fun _ => rfl)
   (fun pre W => Below w.heap.size w W ∧ KeepsB [w3_.heap.size] w5 W)
   (fun _ _ _ => False) ?hI0 (fun _ _ _ _ _ hs _ _ => hs) ⟨B3.out.trans (HB5.out.mono B3.out.size), KeepsB.refl _ _⟩ (fun x => x.elim0) ?assign0 ?body0 ?done0 ?stop0
  case hI0 =>
   intro s_ A_ U row hv hg hr
   refine ⟨hv.1.grown hg hv.1.size (fun k e => by have := (hr k e).1; have := HZ5.out; have := B3.out.size; omega), fun k hk => ?_⟩
   have hk' : k = w3_.heap.size := by simpa using hk
   subst hk'
   have hsz : w3_.heap.size < A_.heap.size := by
    have := hv.2 w3_.heap.size (by simp)
    have hlt : w3_.heap.size < w5.heap.size := by have := HZ5.out; omega
    rw [Array.getElem?_eq_getElem hlt] at this
    exact (Array.getElem?_eq_some_iff.1 this).1
   exact (hg.block _ hsz (fun e => by have := (hr _ e.symm).1; have := HZ5.out; omega)).trans (hv.2 _ (by simp))
  case assign0 =>
   intro l x W K hK
   exact x.elim0
  case body0 =>
   rintro l pre x W hv hlt
   exact x.elim0
  case done0 =>
   rintro D ys W hD rfl hv hdef
   have cB := (hv.2.cell (p := ⟨w3_.heap.size, 0, none⟩) (by simp)).trans HC6.out
   have HD := Lib.hid hD
   have HDEF := Lib.hid hdef
   have HV := Lib.hid hv.1
   have hP := pick_walk none 0 [] W (Kd.C_nil _ _) (Nat.le_refl _) (Nat.zero_le _)
   have hres : r = ([], 6) := by
    rw [← HRES.out, HM0.out]
    rfl
   have HRE := Lib.hid hres
   clear hD hdef hv hres
   go_wp2_with fail
   refine hP.mono ?_
   clear hP
   rintro x W2 ⟨rfl, hb⟩
   obtain ⟨f1, f2, f3⟩ := cget_final (v := .slice none 0 0) (xs := []) (W2 := W2.alloc (.cells #[.int .i64 0, .int .i64 0] 59)) (Kd.R_nil _ _ _ _ _) HV.out (hb.alloc hb.size _) HDEF.out (by have := HD.out; have := HZ5.out; have := B3.out.size; omega)
   have HF1 := Lib.hid f1
   have HF2 := Lib.hid f2
   have HF3 := Lib.hid f3
   clear hb cB f1 f2 f3
   go_wp2
   refine ⟨by simp, .inl ⟨_, _, rfl, run_takeDeferred HF3.out, ?_⟩⟩
   refine ⟨_, results_tmp2 rfl _ _ _, ?_⟩
   rw [HRE.out]
   exact ⟨_, rfl, HF1.out, HF2.out⟩
  case stop0 =>
   rintro D c pre W _ _ h _
   exact h.elim
 ·
  obtain ⟨gx, kx, rfl, hgx1, hgx2, hkx1, hkx2, hcx⟩ := row_block hr (by rw [HXL.out]; omega)
  rw [HXL.out] at hkx1 hcx
  rw [HXL.out]
  have HM1 := Lib.hid (show 1 ≤ m by omega)
  have HGXL := Lib.hid (show gx < w3_.heap.size ∧ 3 * m ≤ kx ∧ kx ≤ maxLen from ⟨hgx2, hkx1, hkx2⟩)
  have HCX := Lib.hid hcx
  clear hr hb hgx1 hgx2 hkx1 hkx2 hcx hm0
  go_wp2_with fail
  have hch := chunk_calls (some ⟨gx, 0, none⟩) (3 * m) kx 3 (by decide) (by decide) (w3_.alloc (.cells #[.slice none 0 0] 54))
  refine hch.mono ?_
  clear hch
  rintro x w5 ⟨rfl, hw5⟩
  obtain ⟨P5, Q5, R5, S5, T5, U5⟩ := cget_begins w3_ m kx gx w.heap.size s X w5 HGXL.out.1 HCL.out HCS.out HCX.out hw5
  have HP5 := Lib.hid P5
  have HQ5 := Lib.hid Q5
  have HR5 := Lib.hid R5
  have HS5 := Lib.hid S5
  have HT5 := Lib.hid T5
  have HU5 := Lib.hid U5
  have hs4 : (w3_.alloc (.cells #[.slice none 0 0] 54)).heap.size = w3_.heap.size + 1 := by simp
  simp only [hs4]
  have HWB := Lib.hid (Nat.le_refl w3_.heap.size)
  have HB3 := Lib.hid (show w3_.heap.size < w5.heap.size by rw [T5]; omega)
  have HKS := Lib.hid (show ∀ k ∈ [w3_.heap.size + 1, w3_.heap.size + 1 + 1, gx, w.heap.size], k < w5.heap.size from fun k hk => by have := HGXL.out.1; have := HCL.out; rw [T5]; simp at hk; omega)
  have HNK := Lib.hid (show w3_.heap.size ∉ [w3_.heap.size + 1, w3_.heap.size + 1 + 1, gx, w.heap.size] from fun hk => by have := HGXL.out.1; have := HCL.out; simp at hk; omega)
  clear P5 Q5 R5 S5 T5 U5 hw5 hs4
  go_wp2_with fail
  refine (wpIn_wide (n := 9)).1 ?_
  refine wpIn_rangeFunc_ownG (F := Fence.wide) (n := 9) rfl (by decide) (gf := 51) (lb := #[.pointer (some ⟨w3_.heap.size + 1, 0, none⟩), .pointer (some ⟨w3_.heap.size + 1 + 1, 0, none⟩)]) rfl trivial (enters_of Try.func51 (by kernel_rfl) rfl)
   (chunk_stops 8 (w3_.heap.size + 1) (w3_.heap.size + 1 + 1) gx 3 m (3 * m) kx [w3_.heap.size + 1, w3_.heap.size + 1 + 1, gx, w.heap.size] w5 rfl (by decide) HM1.out (by have := HM.out; omega) HGXL.out.2.1 HGXL.out.2.2 (by simp) (by simp) (by have := HT5.out; omega) (by have := HT5.out; omega) HQ5.out HR5.out)
   (fun h k => h.trans k) (keepsB_b (fun k hk => by have := HT5.out; have := HGXL.out.1; have := HCL.out; simp at hk; omega)) (Below.refl _ _) (fun _ => rfl)
   (fun pre W => ∃ v, RowM w3_ w3_.heap.size [w3_.heap.size + 1, w3_.heap.size + 1 + 1, gx, w.heap.size] w5 W v ((pre.map (fun x => entX X x.1)).filter (mayM s)))
   (fun _ _ _ => False) ?hI (fun _ _ _ _ _ hs _ _ => hs) ⟨_, HP5.out⟩ ?a1 ?assign ?body ?done ?stop
  case hI => exact fun s A U row ⟨v, hv⟩ hg hr => ⟨v, hv.kept HWB.out HB3.out HKS.out hg hr⟩
  case assign =>
   intro l x W K hK
   gi_wp2
   exact hK
  case stop =>
   rintro D c pre W _ _ h _
   exact h.elim
  case body =>
   rintro l pre x W ⟨v, hv⟩ hlt
   have hx := x.2
   have ca := (hv.hK.cell (p := ⟨gx, 3 * x.1, none⟩) (by simp)).trans (HS5.out (3 * x.1) (by omega))
   have cb := (hv.hK.cell (p := ⟨gx, 3 * x.1 + 1, none⟩) (by simp)).trans (HS5.out (3 * x.1 + 1) (by omega))
   have cc := (hv.hK.cell (p := ⟨gx, 3 * x.1 + 2, none⟩) (by simp)).trans (HS5.out (3 * x.1 + 2) (by omega))
   have cd := (hv.hK.cell (p := ⟨w.heap.size, 0, none⟩) (by simp)).trans HU5.out
   obtain ⟨fa, hfa⟩ : ∃ fa, fa = rd X ((3 * x.1 : Nat) : Int) := ⟨_, rfl⟩
   obtain ⟨fb, hfb⟩ : ∃ fb, fb = rd X ((3 * x.1 + 1 : Nat) : Int) := ⟨_, rfl⟩
   obtain ⟨fc, hfc⟩ : ∃ fc, fc = rd X ((3 * x.1 + 2 : Nat) : Int) := ⟨_, rfl⟩
   rw [← hfa] at ca
   rw [← hfb] at cb
   rw [← hfc] at cc
   have HPM := Lib.hid (show entX X x.1 = ⟨bestP fa fb, fc⟩ by rw [hfa, hfb, hfc]; rfl)
   have HFC := Lib.hid (show 0 ≤ fc ∧ fc ≤ 4294967295 by rw [hfc, recs_rd s m X HX.out _ (by omega)]; exact recs_bd _ _ _)
   have HV := Lib.hid hv
   have HPL := Lib.hid hlt
   have HX2 := Lib.hid hx
   have HGW := Lib.hid (show gx < W.heap.size from Nat.lt_of_lt_of_le (HKS.out gx (by simp)) hv.hS)
   have HCD := Lib.hid cd
   clear hv hfa hfb hfc hlt hx cd
   gi_wp2_with fail
   refine start_in (m := 13) (S := fun u => u.cell? ⟨gx, 3 * x.1, none⟩ = some (.int .i64 fa) ∧ u.cell? ⟨gx, 3 * x.1 + 1, none⟩ = some (.int .i64 fb) ∧ u.cell? ⟨gx, 3 * x.1 + 2, none⟩ = some (.int .i64 fc)) (ds := []) #[false, false, false, false, false, false, false, false, false, false, false, false, false] (by kernel_rfl) rfl rfl (by kernel_rfl) (by rintro ⟨_, _, h⟩; exact h) ⟨ca, cb, cc⟩ (fun hHeld => ?_)
   clear ca cb cc
   obtain ⟨u0, hu0⟩ : ∃ u0, u0 = W.drew := ⟨_, rfl⟩
   have HU0 := Lib.hid (show Below W.heap.size W u0 by rw [hu0]; exact below_drew1 (Below.refl _ _))
   have HZ0 := Lib.hid (show u0.heap.size = W.heap.size by rw [hu0]; rfl)
   have HGL := Lib.hid (show gx < u0.heap.size by rw [hu0]; exact HGW.out)
   rw [← hu0] at hHeld ⊢
   clear hu0
   refine pS_ 0 52 ?_
   refine pS_ 1 53 ?_
   refine pS_ 3 55 ?_
   refine pS_ 4 56 ?_
   refine pS_ 7 59 ?_
   refine pS_ 8 60 ?_
   refine tS_ 2 54 hHeld ?_
   refine tS_ 5 57 hHeld ?_
   refine tS_ 9 61 hHeld ?_
   refine join_ (σ := Nat) 1 #[true, true, true, true, true, true, true, true, true, true, true, true, false] (fun F => [(58, .int .i64 (bestP fa fb)), (62, .agg #[.int .i64 (bestP fa fb), .int .i64 fc]), (9, .pointer (some ⟨F, 0, none⟩))]) (fun F w' => w'.heap[F]? = some (.cells #[.int .i64 0, .int .i64 0] 59 (0, 0)) ∧ Below u0.heap.size u0 w' ∧ u0.heap.size ≤ F) ?hc (fun hcont => ?_)
   rotate_left
   ·
    refine two_ (i := 6) (j := 11) (Ni := some 58) (Nj := some 9) #[true, true, true, true, true, true, true, true, true, true, false, false, false] #[true, true, true, true, true, true, false, true, true, true, false, true, false] rfl rfl rfl rfl (by kernel_rfl) (by decide) (by decide) (fun K hK => ?_) (fun K hK => ?_)
    ·
     refine call_ 12 #[.int .i64 fa, .int .i64 fb] (by rfl) rfl (by go_simp <;> rfl) ?_
     refine (cmap_Best.calls 20 fa fb (bestP fa fb) _ (best_told fa fb 20 (Nat.le_refl _))).mono ?_
     rintro e V1 ⟨rfl, hb1⟩
     refine ⟨_, rfl, ?_⟩
     have hK2 := hK.out
     clear hK
     have hH1 := (⟨(hb1.cell HGL.out).trans hHeld.1, (hb1.cell HGL.out).trans hHeld.2.1, (hb1.cell HGL.out).trans hHeld.2.2⟩ : V1.cell? ⟨gx, 3 * x.1, none⟩ = some (.int .i64 fa) ∧ V1.cell? ⟨gx, 3 * x.1 + 1, none⟩ = some (.int .i64 fb) ∧ V1.cell? ⟨gx, 3 * x.1 + 2, none⟩ = some (.int .i64 fc))
     refine hK2 _ _ hH1 (fun hHeldB => ?_)
     clear hK2
     refine nS_ ?_
     refine pS_ 10 62 ?_
     refine oS_ 11 9 (fun K hK => ?_)
     refine vS_ ?_
     refine hK.out _ _ ⟨cell_al _ hHeldB.1, cell_al _ hHeldB.2.1, cell_al _ hHeldB.2.2⟩ (fun hHeldC => ?_)
     clear hK K
     refine norm_ ?_ (hcont V1.heap.size _ ⟨heap_alloc_new _ _, hb1.alloc hb1.size _, hb1.size⟩)
     simp only [putAll, Act.put, List.setIfInBounds_toArray, List.set_cons_zero, List.set_cons_succ, i64_w, i32_w]
    ·
     refine vS_ ?_
     refine hK.out _ _ ⟨cell_al _ hHeld.1, cell_al _ hHeld.2.1, cell_al _ hHeld.2.2⟩ (fun hHeldB => ?_)
     clear hK K
     refine nS_ ?_
     refine oS_ 6 58 (fun K hK => ?_)
     refine call_ 12 #[.int .i64 fa, .int .i64 fb] (by rfl) rfl (by go_simp <;> rfl) ?_
     refine (cmap_Best.calls 20 fa fb (bestP fa fb) _ (best_told fa fb 20 (Nat.le_refl _))).mono ?_
     rintro e V1 ⟨rfl, hb1⟩
     refine ⟨_, rfl, ?_⟩
     have hK2 := hK.out
     clear hK
     have hb2 : Below u0.heap.size u0 V1 := ((Below.refl _ u0).alloc (Nat.le_refl _) _).trans (hb1.mono (by simp))
     have hH1 := (⟨(hb2.cell HGL.out).trans hHeld.1, (hb2.cell HGL.out).trans hHeld.2.1, (hb2.cell HGL.out).trans hHeld.2.2⟩ : V1.cell? ⟨gx, 3 * x.1, none⟩ = some (.int .i64 fa) ∧ V1.cell? ⟨gx, 3 * x.1 + 1, none⟩ = some (.int .i64 fb) ∧ V1.cell? ⟨gx, 3 * x.1 + 2, none⟩ = some (.int .i64 fc))
     refine hK2 _ _ hH1 (fun hHeldC => ?_)
     clear hK2
     refine nS_ ?_
     refine pS_ 10 62 ?_
     refine norm_ ?_ (hcont u0.heap.size _ ⟨(hb1.block _ (by simp)).trans (heap_alloc_new _ _), hb2, Nat.le_refl _⟩)
     simp only [putAll, Act.put, List.setIfInBounds_toArray, List.set_cons_zero, List.set_cons_succ, i64_w, i32_w]
   rintro F V1 ⟨hF, hb1, hge⟩
   refine norm_ (a' := ?_) ?_ ?_
   rotate_left
   ·
    simp only [putAll, Act.put, List.setIfInBounds_toArray, List.set_cons_zero, List.set_cons_succ, i64_w, i32_w]
    rfl
   refine oN_ 12 (fun K hK => ?_)
   refine skip_ (w1 := (V1.setCell ⟨F, 0, none⟩ (.int .i64 (bestP fa fb))).setCell ⟨F, 1, none⟩ (.int .i64 fc)) (by rfl) rfl ?_ ?_
   · exact store2_run _ _ rfl rfl rfl hF
   have hb2 : Below u0.heap.size u0 ((V1.setCell ⟨F, 0, none⟩ (.int .i64 (bestP fa fb))).setCell ⟨F, 1, none⟩ (.int .i64 fc)) := (hb1.setCell hge _).setCell hge _
   have HUF := Lib.hid (put2_block hF (.int .i64 (bestP fa fb)) (.int .i64 fc))
   refine hK.out _ _ ⟨(hb2.cell HGL.out).trans hHeld.1, (hb2.cell HGL.out).trans hHeld.2.1, (hb2.cell HGL.out).trans hHeld.2.2⟩ (fun hHeld2 => ?_)
   clear hK K
   refine dS_ ?_
   obtain ⟨U, hU⟩ : ∃ U, U = (V1.setCell ⟨F, 0, none⟩ (.int .i64 (bestP fa fb))).setCell ⟨F, 1, none⟩ (.int .i64 fc) := ⟨_, rfl⟩
   rw [← hU] at hb2 HUF ⊢
   have HBU := Lib.hid (show Below W.heap.size W U from HU0.out.trans (hb2.mono (by rw [HZ0.out]; exact Nat.le_refl _)))
   have HFG := Lib.hid (show W.heap.size ≤ F by rw [← HZ0.out]; exact hge)
   clear hU hF hb1 hge hb2 hHeld hHeld2 HU0 HZ0 HGL
   have hcd := (HBU.out.cell (World.block_lt_of_cell? _ _ HCD.out)).trans HCD.out
   have z0 : U.cell? ⟨F, 0, none⟩ = some (.int .i64 (bestP fa fb)) := (blk_cell HUF.out 0).trans rfl
   have z1 : U.cell? ⟨F, 1, none⟩ = some (.int .i64 fc) := (blk_cell HUF.out 1).trans rfl
   obtain ⟨bp, hbp⟩ : ∃ bp, bp = bestP fa fb := ⟨_, rfl⟩
   rw [← hbp] at z0 HUF HPM ⊢
   have HSKIP := Lib.hid (show ∀ U', Below W.heap.size W U' → mayM s ⟨bp, fc⟩ = false → KeepsFrom w5.heap.size W U' ∧ KeepsB [w3_.heap.size + 1, w3_.heap.size + 1 + 1, gx, w.heap.size] W U' ∧ ∃ v, RowM w3_ w3_.heap.size [w3_.heap.size + 1, w3_.heap.size + 1 + 1, gx, w.heap.size] w5 U' v (((pre ++ [x]).map (fun x => entX X x.1)).filter (mayM s)) from
    fun U' hb hm => ⟨keepsFrom_below hb, fun k hk => hb.block k (Nat.lt_of_lt_of_le (HKS.out k hk) HV.out.hS), v, by rw [may_snoc, HPM.out, hm, if_neg Bool.false_ne_true, List.append_nil]; exact HV.out.below HKS.out hb⟩)
   obtain ⟨Y, e9, hy⟩ : ∃ Y e9, getN s fc [2] = (Y, e9) := ⟨_, _, rfl⟩
   have HY := Lib.hid hy
   clear hbp hy
   gi_wp2_with fail
   refine ⟨trivial, CallsIn.inRound _ (callsIn_wide.2 ?_)⟩
   have D1 := lit_C U [2] (by decide)
   refine (bin_Get.calls s fc _ 1 [2] Y e9 _ D1 (Nat.le_refl _) (by unfold bin_Get.f; rw [if_pos (by decide), HY.out])).mono ?_
   rintro e U2 ⟨v2, rfl, hr2, hb2⟩
   have hbu : Below U.heap.size U U2 := (below_alloc (Below.refl U.heap.size U) _).trans (hb2.mono (by simp))
   have HB2 := Lib.hid (HBU.out.trans (hbu.mono HBU.out.size))
   have y0 := (hbu.cell (World.block_lt_of_cell? _ _ z0)).trans z0
   have HF2 := Lib.hid ((hbu.block F (blk_lt HUF.out)).trans HUF.out)
   obtain ⟨pp, hpp⟩ := Int.eq_ofNat_of_zero_le HFC.out.1
   have hone := get_one s pp
   rw [← hpp, HY.out] at hone
   have HONE := Lib.hid hone
   have HPP := Lib.hid hpp
   clear hb2 hbu D1 hcd z0 z1 hone hpp HUF
   by_cases h0 : bp = 0
   ·
    have d5 : (bp == 0) = true := by rw [h0]; rfl
    obtain ⟨A9, k9, rfl⟩ := Kd.R_slice hr2
    have HM0 := Lib.hid (show mayM s ⟨bp, fc⟩ = false by unfold mayM; rw [h0]; rfl)
    clear h0 hr2
    gi_wp2
    exact HSKIP.out _ HB2.out HM0.out
   have d5 : (bp == 0) = false := by simpa using h0
   by_cases hsp : pp + 2 ≤ s.size
   case neg =>
    rw [if_neg hsp] at HONE
    obtain ⟨rfl, rfl⟩ := Prod.mk.inj HONE.out
    obtain ⟨A9, k9, rfl⟩ := Kd.R_slice hr2
    have HM0 := Lib.hid (show mayM s ⟨bp, fc⟩ = false by unfold mayM; dsimp only; rw [HPP.out, Int.toNat_natCast, decide_eq_false hsp]; simp)
    clear h0 hr2 hsp
    gi_wp2
    exact HSKIP.out _ HB2.out HM0.out
   rw [if_pos hsp] at HONE
   obtain ⟨hY, rfl⟩ := Prod.mk.inj HONE.out
   have HMAY := Lib.hid (show mayM s ⟨bp, fc⟩ = isFmt (w2 s pp) by unfold mayM; dsimp only; rw [HPP.out, Int.toNat_natCast, decide_eq_true hsp, decide_eq_true h0]; simp)
   obtain ⟨f9, hf9⟩ : ∃ f9, f9 = w2 s pp := ⟨_, rfl⟩
   rw [← hf9] at HMAY hY
   subst hY
   obtain ⟨ga, k9, rfl, hga1, hga2, _, _, hcy⟩ := row_block hr2 (by simp)
   have hlen9 : ([f9] : List Int).length = 1 := rfl
   rw [hlen9] at hcy ⊢
   have cy : U2.cell? ⟨ga, 0, none⟩ = some (.int .i64 f9) := (hcy 0 (by decide)).trans rfl
   have HGA := Lib.hid hga2
   obtain ⟨v0, vf, fa_, fb_, ho0, ho1, hlk⟩ := look_form f9
   have HO0 := Lib.hid ho0
   have HO1 := Lib.hid ho1
   have HLK := Lib.hid hlk
   clear h0 hsp hf9 hr2 hga1 hga2 hcy hlen9 ho0 ho1 hlk
   gi_wp2_with fail
   refine start_in (m := 11) (S := fun u => u.cell? ⟨ga, 0, none⟩ = some (.int .i64 f9)) (ds := []) #[false, false, false, false, false, false, false, false, false, false, false] (by kernel_rfl) rfl rfl (by kernel_rfl) (by rintro ⟨_, _, h⟩; exact h) cy (fun hHeld => ?_)
   clear cy y0
   obtain ⟨u1, hu1⟩ : ∃ u1, u1 = U2.drew := ⟨_, rfl⟩
   have HU1 := Lib.hid (show Below U2.heap.size U2 u1 by rw [hu1]; exact below_drew1 (Below.refl _ _))
   have HZ1 := Lib.hid (show u1.heap.size = U2.heap.size by rw [hu1]; rfl)
   have HGL := Lib.hid (show ga < u1.heap.size by rw [hu1]; exact HGA.out)
   rw [← hu1] at hHeld ⊢
   clear hu1
   refine pS_ 1 80 ?_
   refine pS_ 2 81 ?_
   refine tS_ 3 82 hHeld ?_
   refine join_ (σ := Nat × Nat × Nat × Nat) 2 #[true, true, true, true, true, true, true, true, true, false, false] (fun q => [(79, .map (some q.1)), (83, Value.tuple #[.agg #[v0, vf q.2.1 q.2.2.1, .int .i64 fa_, .int .i64 fb_], .bool (isFmt f9)]), (78, Value.tuple #[.agg #[v0, vf q.2.1 q.2.2.1, .int .i64 fa_, .int .i64 fb_], .bool (isFmt f9)]), (84, .agg #[v0, vf q.2.1 q.2.2.1, .int .i64 fa_, .int .i64 fb_]), (85, .bool (isFmt f9)), (12, .pointer (some ⟨q.2.2.2, 0, none⟩))]) (fun q w' => w'.heap[q.2.2.2]? = some (.cells #[.nilFunc, .nilFunc, .int .i64 0, .int .i64 0] 43 (0, 0)) ∧ Below u1.heap.size u1 w' ∧ u1.heap.size ≤ q.2.2.2) ?hc2 (fun hcont => ?_)
   rotate_left
   ·
    refine two_ (i := 0) (j := 8) (Ni := some 79) (Nj := some 12) #[true, true, true, true, false, false, false, false, false, false, false] #[false, true, true, true, false, false, false, false, true, false, false] rfl rfl rfl rfl (by kernel_rfl) (by decide) (by decide) (fun K hK => ?_) (fun K hK => ?_)
    ·
     refine call_ 20 #[] (by rfl) rfl (by go_simp <;> rfl) ?_
     refine (formats_calls _).mono ?_
     rintro e V1 ⟨hb1, bm, m1, m2, hbm, rfl, hF1⟩
     refine ⟨_, rfl, ?_⟩
     have hK2 := hK.out
     clear hK
     have hH1 := (hb1.cell HGL.out).trans hHeld
     refine hK2 _ _ hH1 (fun hHeldB => ?_)
     clear hK2
     refine nS_ ?_
     refine two_ (i := 4) (j := 8) (Ni := some 83) (Nj := some 12) #[true, true, true, true, true, false, false, false, false, false, false] #[true, true, true, true, false, false, false, false, true, false, false] rfl rfl rfl rfl (by kernel_rfl) (by decide) (by decide) (fun K hK => ?_) (fun K hK => ?_)
     ·
      refine value_ (w1 := V1) (v := .tuple #[.agg #[v0, vf m1 m2, .int .i64 fa_, .int .i64 fb_], .bool (isFmt f9)]) (by rfl) rfl (lookop_run rfl rfl rfl (HLK.out _ bm m1 m2 hF1)) ?_
      refine hK.out _ _ hHeldB (fun hHeldC => ?_)
      clear hK K
      refine nS_ ?_
      refine pS_ 5 78 ?_
      refine pS_ 6 84 ?_
      refine pS_ 7 85 ?_
      refine oS_ 8 12 (fun K hK => ?_)
      refine vS_ ?_
      refine hK.out _ _ (cell_al _ hHeldC) (fun hHeldD => ?_)
      clear hK K
      refine norm_ ?_ (hcont (bm, m1, m2, V1.heap.size) _ ⟨heap_alloc_new _ _, hb1.alloc hb1.size _, hb1.size⟩)
      simp only [putAll, Act.put, List.setIfInBounds_toArray, List.set_cons_zero, List.set_cons_succ, i64_w, i32_w]
     ·
      refine vS_ ?_
      refine hK.out _ _ (cell_al _ hHeldB) (fun hHeldC => ?_)
      clear hK K
      refine nS_ ?_
      refine oS_ 4 83 (fun K hK => ?_)
      refine value_ (w1 := _) (v := .tuple #[.agg #[v0, vf m1 m2, .int .i64 fa_, .int .i64 fb_], .bool (isFmt f9)]) (by rfl) rfl (lookop_run rfl rfl rfl (HLK.out _ bm m1 m2 (hF1.below ((Below.refl _ V1).alloc (Nat.le_refl _) _)))) ?_
      refine hK.out _ _ hHeldC (fun hHeldD => ?_)
      clear hK K
      refine nS_ ?_
      refine pS_ 5 78 ?_
      refine pS_ 6 84 ?_
      refine pS_ 7 85 ?_
      refine norm_ ?_ (hcont (bm, m1, m2, V1.heap.size) _ ⟨heap_alloc_new _ _, hb1.alloc hb1.size _, hb1.size⟩)
      simp only [putAll, Act.put, List.setIfInBounds_toArray, List.set_cons_zero, List.set_cons_succ, i64_w, i32_w]
    ·
     refine vS_ ?_
     refine hK.out _ _ (cell_al _ hHeld) (fun hHeldB => ?_)
     clear hK K
     refine nS_ ?_
     refine oS_ 0 79 (fun K hK => ?_)
     refine call_ 20 #[] (by rfl) rfl (by go_simp <;> rfl) ?_
     refine (formats_calls _).mono ?_
     rintro e V1 ⟨hb1, bm, m1, m2, hbm, rfl, hF1⟩
     refine ⟨_, rfl, ?_⟩
     have hK2 := hK.out
     clear hK
     have hb2 : Below u1.heap.size u1 V1 := ((Below.refl _ u1).alloc (Nat.le_refl _) _).trans (hb1.mono (by simp))
     have hH1 := (hb2.cell HGL.out).trans hHeld
     refine hK2 _ _ hH1 (fun hHeldC => ?_)
     clear hK2
     refine nS_ ?_
     refine oS_ 4 83 (fun K hK => ?_)
     refine value_ (w1 := V1) (v := .tuple #[.agg #[v0, vf m1 m2, .int .i64 fa_, .int .i64 fb_], .bool (isFmt f9)]) (by rfl) rfl (lookop_run rfl rfl rfl (HLK.out _ bm m1 m2 hF1)) ?_
     refine hK.out _ _ hHeldC (fun hHeldD => ?_)
     clear hK K
     refine nS_ ?_
     refine pS_ 5 78 ?_
     refine pS_ 6 84 ?_
     refine pS_ 7 85 ?_
     refine norm_ ?_ (hcont (bm, m1, m2, u1.heap.size) _ ⟨(hb1.block _ (by simp)).trans (heap_alloc_new _ _), hb2, Nat.le_refl _⟩)
     simp only [putAll, Act.put, List.setIfInBounds_toArray, List.set_cons_zero, List.set_cons_succ, i64_w, i32_w]
   rintro ⟨bm, m1, m2, F9⟩ V1 ⟨hF9, hb1, hge⟩
   dsimp only at hF9 hge
   refine norm_ (a' := ?_) ?_ ?_
   rotate_left
   ·
    simp only [putAll, Act.put, List.setIfInBounds_toArray, List.set_cons_zero, List.set_cons_succ, i64_w, i32_w]
    rfl
   refine oN_ 9 (fun K hK => ?_)
   refine skip_ (w1 := (((V1.setCell ⟨F9, 0, none⟩ v0).setCell ⟨F9, 1, none⟩ (vf m1 m2)).setCell ⟨F9, 2, none⟩ (.int .i64 fa_)).setCell ⟨F9, 3, none⟩ (.int .i64 fb_)) (by rfl) rfl ?_ ?_
   · exact store4_run v0 (vf m1 m2) fa_ fb_ HO0.out (HO1.out m1 m2) rfl rfl rfl hF9
   have hb2 : Below u1.heap.size u1 ((((V1.setCell ⟨F9, 0, none⟩ v0).setCell ⟨F9, 1, none⟩ (vf m1 m2)).setCell ⟨F9, 2, none⟩ (.int .i64 fa_)).setCell ⟨F9, 3, none⟩ (.int .i64 fb_)) := (((hb1.setCell hge _).setCell hge _).setCell hge _).setCell hge _
   refine hK.out _ _ ((hb2.cell HGL.out).trans hHeld) (fun hHeld2 => ?_)
   clear hK K
   refine pS_ 10 13 ?_
   refine dS_ ?_
   obtain ⟨U3, hU3⟩ : ∃ U3, U3 = (((V1.setCell ⟨F9, 0, none⟩ v0).setCell ⟨F9, 1, none⟩ (vf m1 m2)).setCell ⟨F9, 2, none⟩ (.int .i64 fa_)).setCell ⟨F9, 3, none⟩ (.int .i64 fb_) := ⟨_, rfl⟩
   rw [← hU3] at hb2 ⊢
   have hb3 : Below U2.heap.size U2 U3 := HU1.out.trans (hb2.mono (by rw [HZ1.out]; exact Nat.le_refl _))
   have HB3_ := Lib.hid (HB2.out.trans (hb3.mono HB2.out.size))
   have HF3 := Lib.hid ((hb3.block F (blk_lt HF2.out)).trans HF2.out)
   clear hU3 hF9 hb1 hge hb2 hb3 hHeld hHeld2 HU1 HZ1 HGL HF2
   cases hfm : isFmt f9 with
   | false =>
    have HM0 := Lib.hid (show mayM s ⟨bp, fc⟩ = false by rw [HMAY.out, hfm])
    clear hfm
    gi_wp2
    exact HSKIP.out _ HB3_.out HM0.out
   | true =>
    have HM0 := Lib.hid (show mayM s ⟨bp, fc⟩ = true by rw [HMAY.out, hfm])
    obtain ⟨xs, hxs⟩ : ∃ xs, xs = (pre.map (fun x => entX X x.1)).filter (mayM s) := ⟨_, rfl⟩
    have HXL2 := Lib.hid (show xs.length ≤ 64 by rw [hxs]; have := may_len s X pre; have := HPL.out; have := HM.out.2; omega)
    rw [← hxs] at HV
    have HVU := Lib.hid (HV.out.below HKS.out HB3_.out)
    have HSN := Lib.hid (show ((pre ++ [x]).map (fun x => entX X x.1)).filter (mayM s) = xs ++ [⟨bp, fc⟩] by rw [may_snoc, HPM.out, HM0.out, if_pos rfl, hxs])
    have cv := HVU.out.c
    have z0 : U3.cell? ⟨F, 0, none⟩ = some (.int .i64 bp) := (blk_cell HF3.out 0).trans rfl
    have z1 : U3.cell? ⟨F, 1, none⟩ = some (.int .i64 fc) := (blk_cell HF3.out 1).trans rfl
    obtain ⟨Av, kv, rfl⟩ := Kd.R_slice HVU.out.r
    clear hfm hxs
    gi_wp2_with (gi_at_builtin; go_loud (refine append_in (by kernel_rfl) (by rfl) (?_ : if _ then _ else _); refine Kd.R_append_step k41 (w0 := w3_) w3_.heap.size (by rfl) (.tmp 87) (.tmp 89) 54 59 (.agg #[(.int .i64 0), (.int .i64 0)]) 16 rfl Try.underlying54 infoE rfl (by decide) (by decide) _ xs ⟨bp, fc⟩ [.int .i64 bp, .int .i64 fc] (fun k => w5.heap.size ≤ k) (fun _ => False) rfl rfl (k41_mkM _ _ _ ⟨bp, fc⟩) (fun _ hk => hk.elim) (fun k hk => Nat.le_trans HVU.out.hS hk) HVU.out.r HVU.out.hB HVU.out.hB.size (ent_bytes HXL2.out) ?_))
    intro v1 u2 ho hb hg hat
    obtain ⟨A1, k1, rfl⟩ := Kd.R_slice ho
    have eL : (xs ++ [(⟨bp, fc⟩ : S41)]).length = xs.length + 1 := by simp
    rw [eL] at ho hat ⊢
    obtain ⟨c1, zz, G1, G2, G3⟩ := HVU.out.grew HWB.out HB3.out HKS.out HNK.out ho hb hg
    have HG1 := Lib.hid G1
    have HG2 := Lib.hid (show KeepsB [w3_.heap.size + 1, w3_.heap.size + 1 + 1, gx, w.heap.size] W _ from fun k hk => (G2 k hk).trans (HB3_.out.block k (Nat.lt_of_lt_of_le (HKS.out k hk) HV.out.hS)))
    have HG3 := Lib.hid (show KeepsFrom w5.heap.size W _ from RowM.keepsFrom HB3.out (fun k o hk ho hn => G3 k o ((HB3_.out.block k (Array.getElem?_eq_some_iff.1 hk).1).trans hk) ho hn) (Nat.le_trans HB3_.out.size (by have := hg.size; simpa using this)))
    clear ho hb hg hat G1 G2 G3 cv z0 z1 eL
    gi_wp2
    exact ⟨HG3.out, HG2.out, _, by rw [HSN.out]; exact HG1.out⟩
  case done =>
   rintro D ys W hD rfl ⟨v, hv⟩ hdef
   have htr := recs_told s m X HX.out
   rw [htr] at hv
   have hen : ((List.range m).map (entM s)).filter (mayM s) = entsM s m := rfl
   rw [hen] at hv
   obtain ⟨xs, hxs⟩ : ∃ xs, xs = entsM s m := ⟨_, rfl⟩
   rw [← hxs] at hv HRES
   have hxl : xs.length ≤ 64 := by
    rw [hxs]
    unfold entsM
    refine Nat.le_trans (List.length_filter_le _ _) ?_
    rw [List.length_map, List.length_range]
    exact HM.out.2
   obtain ⟨A7, k7, hA7⟩ := Kd.R_slice hv.r
   subst hA7
   obtain ⟨_, _, e0, hk7, C7⟩ := Kd.R_reads hv.r
   injection e0 with e5 e6 e7
   subst e5
   subst e7
   have cB := hv.c
   have cS := (hv.hK.cell (p := ⟨w.heap.size, 0, none⟩) (by simp)).trans HU5.out
   have HV := Lib.hid (B3.out.trans (hv.hB.mono B3.out.size))
   have HD := Lib.hid hD
   have HDEF := Lib.hid hdef
   have hP := pick_walk A7 k7 xs W C7 hk7 (by omega)
   obtain ⟨⟨b0, b1⟩, bb, hbe⟩ : ∃ x b, bestS xs = (x, b) := ⟨_, _, rfl⟩
   rw [hbe] at hP HRES
   have HBE := Lib.hid (show bestS (entsM s m) = (⟨b0, b1⟩, bb) by rw [← hxs]; exact hbe)
   clear hD hdef hv htr hen hxs hxl C7 hk7 e6 hbe
   go_wp2_with fail
   refine hP.mono ?_
   clear hP
   rintro x W2 ⟨rfl, hb⟩
   have cS2 := (hb.cell (World.block_lt_of_cell? _ _ cS)).trans cS
   have HW2 := Lib.hid (show Below W.heap.size W (W2.alloc (.cells #[.int .i64 b0, .int .i64 b1] 59)) from hb.alloc hb.size _)
   have HCS2 := Lib.hid (cell_al (.cells #[.int .i64 b0, .int .i64 b1] 59) cS2)
   clear hb cB cS cS2
   cases bb with
   | false =>
    have hres : r = ([], 6) := HRES.out.symm
    have HRE := Lib.hid hres
    obtain ⟨f1, f2, f3⟩ := cget_final (v := .slice none 0 0) (xs := []) (Kd.R_nil _ _ _ _ _) HV.out HW2.out HDEF.out (by have := HD.out; have := HT5.out; have := B3.out.size; omega)
    have HF1 := Lib.hid f1
    have HF2 := Lib.hid f2
    have HF3 := Lib.hid f3
    clear f1 f2 f3 hres
    go_wp2
    refine ⟨by simp, .inl ⟨_, _, rfl, run_takeDeferred HF3.out, ?_⟩⟩
    refine ⟨_, results_tmp2 rfl _ _ _, ?_⟩
    rw [HRE.out]
    exact ⟨_, rfl, HF1.out, HF2.out⟩
   | true =>
    have hres : readM (s.extract b1.toNat s.size) = r := HRES.out
    obtain ⟨p0, p1⟩ := best_at HBE.out
    obtain ⟨at_, hat⟩ := Int.eq_ofNat_of_zero_le p0
    dsimp only at hat p1
    subst hat
    rw [Int.toNat_natCast] at hres p1
    have hle := eq_true (show at_ ≤ s.size by omega)
    obtain ⟨L, e, hL⟩ : ∃ L e, readM (s.extract at_ s.size) = (L, e) := ⟨_, _, rfl⟩
    rw [hL] at hres
    have HRE := Lib.hid hres
    have HL := Lib.hid hL
    clear hres p0 p1 hL
    have hcs2 := HCS2.out
    go_wp2_with fail
    refine (cmap_Read.calls (s.extract at_ s.size) L e _ (by unfold cmap_Read.f; rw [HL.out])).mono ?_
    rintro x W4 ⟨v, rfl, hr4, hb4⟩
    obtain ⟨A8, k8, rfl⟩ := Kd.R_slice hr4
    obtain ⟨f1, f2, f3⟩ := cget_final (Kd.R_lower hr4 (Nat.le_trans HV.out.size HW2.out.size)) HV.out (HW2.out.trans (hb4.mono HW2.out.size)) HDEF.out (by have := HD.out; have := HT5.out; have := B3.out.size; omega)
    have HF1 := Lib.hid f1
    have HF2 := Lib.hid f2
    have HF3 := Lib.hid f3
    clear hr4 hb4 f1 f2 f3 hcs2 hle
    go_wp2
    refine ⟨by simp, .inl ⟨_, _, rfl, run_takeDeferred HF3.out, ?_⟩⟩
    refine ⟨_, results_tmp2 rfl _ _ _, ?_⟩
    rw [← HRE.out]
    exact ⟨_, rfl, HF1.out, HF2.out⟩
def cmap_Get.f (a0 : ByteArray) : Option (List S50 × Int) := some (getM a0)
theorem cmap_Get.calls (a0 : ByteArray) (r1 : List S50) (r2 : Int) (w : World) (h : cmap_Get.f a0 = some (r1, r2)) :
  Calls Try.prog 9 #[.string a0] w fun e w' => ∃ v0_ : Value, e = .returned (.tuple #[v0_, .int .i64 r2]) ∧ Kd.R k50 50 w' w.heap.size (fun _ => True) v0_ r1 ∧ Below w.heap.size w w' := by
 have hr : getM a0 = (r1, r2) := Option.some.inj h
 by_cases h4 : a0.size < 4
 ·
  have he : getM a0 = ([], 4) := by unfold getM; rw [if_pos h4]
  rw [he] at hr
  obtain ⟨rfl, rfl⟩ := Prod.mk.inj hr
  exact cget_short a0 w h4
 have h4 : 4 ≤ a0.size := by omega
 by_cases h0 : w2 a0 0 = 0
 case neg => exact cget_form a0 w h4 h0 (r1, r2) (by rw [← hr, getM_form h4 h0])
 by_cases hl : 64 < w2 a0 2
 · exact cget_long a0 w h4 h0 hl (r1, r2) (by rw [← hr, getM_long h4 h0 hl])
 obtain ⟨m, hm⟩ := Int.eq_ofNat_of_zero_le (w2_bd a0 2).1
 exact cget_main a0 w h4 h0 m hm (by omega) (r1, r2) hr
end Go.Proofs.Ytejdflndgnpkcaa.P
end
section
namespace Go.Proofs.Ytejdflndgnpkcaa.P
open Go.RowKit Go.Proofs.YtejdflndgnpkcaaW.PrintWords Go.Proofs.YtejdflndgnpkcaaW.PrintLast Go.Proofs.YtejdflndgnpkcaaW.PrintMore
def formM (l : List S50) (n : Int) : ByteArray × Int := if n = 0 then smallN l else if n = 4 then putS l else if n = 6 then trimN l else putG l n
def kindP (n : Int) : Int := if n = 0 then 1 else 3
def kindE (n : Int) : Int := if n = 0 then 0 else if n = 4 ∨ n = 6 then 1 else 10
theorem isFmt_iff (n : Int) : isFmt n = true ↔ (n = 0 ∨ n = 4 ∨ n = 6 ∨ n = 12 ∨ n = 13) := by unfold isFmt; exact decide_eq_true_iff
theorem putM_not {l : List S50} {n : Int} (h : isFmt n = false) : putM l n = (⟨#[]⟩, 1) := by
 have h := of_decide_eq_false h
 unfold putM
 rw [if_neg (by omega), if_neg (by omega), if_neg (by omega), if_neg (by omega), if_neg (by omega)]
theorem putM_form {l : List S50} {n : Int} (h : isFmt n = true) : putM l n = wrapC (kindP n) (kindE n) (formM l n) := by
 rcases (isFmt_iff n).1 h with rfl | rfl | rfl | rfl | rfl <;> simp [putM, kindP, kindE, formM]
theorem kind_bd (n : Int) : 0 ≤ kindP n ∧ kindP n ≤ 65535 ∧ 0 ≤ kindE n ∧ kindE n ≤ 65535 := by
 unfold kindP kindE
 split
 · omega
 · split <;> omega
theorem kind_good {n : Int} (h : isFmt n = true) : bestP (kindP n) (kindE n) ≠ 0 := by
 rcases (isFmt_iff n).1 h with rfl | rfl | rfl | rfl | rfl <;> decide
theorem ext_all (t : ByteArray) : t.extract 0 t.size = t := by
 have h := ba_drop [] t.data.toList
 rw [List.nil_append, ba_of] at h
 exact h
theorem w2_in (s : ByteArray) (p : Nat) (h : p ≤ s.size) : w2 (s.extract p s.size) 0 = w2 s p := by
 unfold w2
 rw [ext_all]
theorem small_good {l : List S50} (h : (smallN l).2 = 0) : ∃ M, isL l = true ∧ (smallN l).1.size = 262 ∧ w2 (smallN l).1 0 = 0 ∧ getC (smallN l).1 = (M, 0) ∧ isL M = true ∧ ∀ c, lookN M c = lookN l c := by
 unfold smallN at h ⊢
 by_cases h1 : isL l = false
 · rw [if_pos h1] at h; exact absurd (show (1 : Int) = 0 from h) (by decide)
 have hi : isL l = true := by cases hh : isL l with | true => rfl | false => exact absurd hh h1
 rw [if_neg h1] at h ⊢
 by_cases hb : 256 ≤ (endsN l).2.1
 · rw [if_pos hb] at h; exact absurd (show (7 : Int) = 0 from h) (by decide)
 rw [if_neg hb] at h ⊢
 by_cases hok : smallOk l = true
 case neg => rw [if_neg hok] at h; exact absurd (show (7 : Int) = 0 from h) (by decide)
 rw [if_pos hok]
 have hg := looks_bd hi 0 256
 simp only [Int.zero_add] at hg
 have hM : isL (spansN 0 ((List.range 256).map (fun c : Nat => lookN l (c : Int)))) = true := spans_isL (by decide) (by simp) hg
 refine ⟨_, hi, by rw [ba_size, smallB_length], ?_, small_get hi hok, hM, fun c => ?_⟩
 ·
  have := w2_at [] 0 ([1, 6, 0, 0] ++ (List.range 256).map (byteG l)) (by omega) (by omega) 0 rfl
  exact this
 ·
  have := small_back hi (by omega) c hg
  unfold glyphOf at this
  rwa [hM, if_pos rfl] at this
theorem trim_good {l : List S50} (h : (trimN l).2 = 0) : ∃ M, isL l = true ∧ 10 ≤ (trimN l).1.size ∧ w2 (trimN l).1 0 = 6 ∧ getC (trimN l).1 = (M, 0) ∧ isL M = true ∧ ∀ c, lookN M c = lookN l c := by
 unfold trimN at h ⊢
 by_cases h1 : isL l = false
 · rw [if_pos h1] at h; exact absurd (show (1 : Int) = 0 from h) (by decide)
 have hi : isL l = true := by cases hh : isL l with | true => rfl | false => exact absurd hh h1
 rw [if_neg h1] at h ⊢
 obtain ⟨_, i1, i2⟩ := isL_all hi
 have hw : ∀ (a : Int) (m : Int) (g : List UInt8), w2 ⟨(headT a m ++ g).toArray⟩ 0 = 6 := fun a m g => by
  have := w2_at [] 6 (bytesN (10 + 2 * m) 2 ++ (bytesN 0 2 ++ (bytesN a 2 ++ (bytesN m 2 ++ []))) ++ g) (by omega) (by omega) 0 rfl
  simpa only [headT, List.nil_append, List.append_assoc] using this
 have hz : ∀ (a : Int) (m : Int) (g : List UInt8), 10 ≤ (⟨(headT a m ++ g).toArray⟩ : ByteArray).size := fun a m g => by
  rw [ba_size, List.length_append, headT_length]; omega
 rcases ends_in l i1 i2 with ⟨h3, _⟩ | ⟨a, b, h3, h4, h5, h6⟩
 ·
  have ht := trim_get hi (a := 0) (m := 0) (by decide) (by decide) (by decide) (by decide) []
  rw [List.append_nil] at ht
  rw [h3] at h ⊢
  simp only at h ⊢
  have hm0 : manyT 0 0 false = 0 := rfl
  rw [hm0] at h ⊢
  rw [if_neg (show ¬ ((65535 : Int) < 0 ∨ (32762 : Int) < 0) by decide)]
  have e0 : (0 : Int).toNat = 0 := rfl
  simp only
  rw [e0]
  have ht' : getC ⟨(headT 0 0 ++ glyphsT l 0 0).toArray⟩ = (([] : List S50), 0) := ht
  refine ⟨[], hi, hz _ _ _, hw _ _ _, ht', by decide, fun c => ?_⟩
  rw [trim_none hi (by rw [h3]) c]
  rfl
 ·
  rw [h3] at h ⊢
  simp only at h ⊢
  have hmt : manyT a b true = b - a + 1 := by unfold manyT; rw [if_pos rfl]
  rw [hmt] at h ⊢
  by_cases hb : 65535 < b ∨ 32762 < b - a + 1
  · rw [if_pos hb] at h; exact absurd (show (7 : Int) = 0 from h) (by decide)
  rw [if_neg hb]
  simp only
  obtain ⟨m, hm⟩ := Int.eq_ofNat_of_zero_le (show 0 ≤ b - a + 1 by omega)
  rw [hm, Int.toNat_natCast]
  have ht := trim_get hi (a := a) (m := m) h4 (by omega) (by omega) (by omega) []
  rw [List.append_nil] at ht
  have hM : isL (spansN a ((List.range m).map (fun i : Nat => lookN l (a + (i : Int))))) = true := spans_isL h4 (by simp; omega) (looks_bd hi a m)
  refine ⟨_, hi, hz _ _ _, hw _ _ _, ht, hM, fun c => ?_⟩
  have := trim_back hi h3 h4 m hm.symm (by omega) c
  unfold glyphOf at this
  rwa [hM, if_pos rfl] at this
theorem seg_good {l : List S50} (h : (putS l).2 = 0) : ∃ M, isL l = true ∧ 16 ≤ (putS l).1.size ∧ w2 (putS l).1 0 = 4 ∧ getS (putS l).1 = (M, 0) ∧ isL M = true ∧ ∀ c, lookN M c = lookN l c := by
 obtain ⟨L, k, hs, hp⟩ := putS_ok h
 obtain ⟨hi, _, hk, _, hg⟩ := segP_good hs
 obtain ⟨h1, h2⟩ := segX_good hs
 have hget := get_out hg []
 rw [List.append_nil] at hget
 refine ⟨_, hi, by rw [hp, ba_size, bytesS_length, out_length]; omega, ?_, by rw [hp]; exact hget, h1, h2⟩
 rw [hp]
 have hq := w2_q (outS L (cntR L)) [] (out_fits hg) 0 4 (by rfl)
 rw [List.append_nil] at hq
 exact hq
theorem group_good {l : List S50} {f : Int} (hf : f = 12 ∨ f = 13) (h : (putG l f).2 = 0) : ∃ M, isL l = true ∧ 16 ≤ (putG l f).1.size ∧ (putG l f).1.size ≤ 800000 ∧ (∀ m : ByteArray, w2 ((putG l f).1 ++ m) 0 = f ∧ getG ((putG l f).1 ++ m) = (M, 0)) ∧ isL M = true ∧ ∀ c, lookN M c = lookN l c := by
 unfold putG at h ⊢
 have h1 : ¬ (f ≠ 12 ∧ f ≠ 13) := by omega
 rw [if_neg h1] at h ⊢
 by_cases h2 : (splitN l (13 - f)).2 ≠ 0
 · rw [if_pos h2] at h; exact absurd h h2
 rw [if_neg h2]
 have h3 : (splitN l (13 - f)).2 = 0 := Decidable.of_not_not h2
 obtain ⟨L, hs⟩ : ∃ L, splitN l (13 - f) = (L, 0) := ⟨(splitN l (13 - f)).1, by rw [← h3]⟩
 obtain ⟨hi, hst, hL, hstep, hlk⟩ := split_good hs
 have hlen := (isL_all hL).1
 rw [hs]
 simp only
 have hsz : (⟨(headB f (L.length : Int) ++ spansB L).toArray⟩ : ByteArray).size = 16 + 12 * L.length := by
  rw [ba_size, List.length_append, headB_length, spansB_length]
 refine ⟨L, hi, by omega, by omega, fun m => ?_, hL, hlk⟩
 rw [ba_more]
 refine ⟨?_, get_putG hL hf hstep _⟩
 have := w2_at [] f (bytesN 0 2 ++ (bytesN (16 + 12 * (L.length : Int)) 4 ++ (bytesN 0 4 ++ (bytesN (L.length : Int) 4 ++ []))) ++ spansB L ++ m.data.toList) (by omega) (by omega) 0 rfl
 simpa only [headB, List.nil_append, List.append_assoc] using this
structure Back (l : List S50) (t : ByteArray) (n : Int) (M : List S50) : Prop where
 z : 2 ≤ t.size
 w : w2 t 0 = n
 g : readM t = (M, 0)
 i : isL l = true
 j : isL M = true
 k : ∀ c, lookN M c = lookN l c
theorem app_nil (t : ByteArray) : t ++ (⟨#[]⟩ : ByteArray) = t := by
 apply ByteArray.ext
 simp
theorem form_back {l : List S50} {n : Int} (hf : isFmt n = true) (h : (formM l n).2 = 0) : ∃ M, Back l (formM l n).1 n M := by
 rcases (isFmt_iff n).1 hf with rfl | rfl | rfl | hh
 ·
  have e : formM l 0 = smallN l := by simp [formM]
  rw [e] at h ⊢
  obtain ⟨M, h1, h2, h3, h4, h5, h6⟩ := small_good h
  exact ⟨M, by omega, h3, by unfold readM; rw [if_neg (by omega), if_pos (.inl h3)]; exact h4, h1, h5, h6⟩
 ·
  have e : formM l 4 = putS l := by simp [formM]
  rw [e] at h ⊢
  obtain ⟨M, h1, h2, h3, h4, h5, h6⟩ := seg_good h
  exact ⟨M, by omega, h3, by unfold readM; rw [if_neg (by omega), if_neg (by omega), if_pos h3]; exact h4, h1, h5, h6⟩
 ·
  have e : formM l 6 = trimN l := by simp [formM]
  rw [e] at h ⊢
  obtain ⟨M, h1, h2, h3, h4, h5, h6⟩ := trim_good h
  exact ⟨M, by omega, h3, by unfold readM; rw [if_neg (by omega), if_pos (.inr h3)]; exact h4, h1, h5, h6⟩
 ·
  have e : formM l n = putG l n := by unfold formM; rw [if_neg (by omega), if_neg (by omega), if_neg (by omega)]
  rw [e] at h ⊢
  obtain ⟨M, h1, h2, _, h4, h5, h6⟩ := group_good hh h
  have h4 := h4 ⟨#[]⟩
  rw [app_nil] at h4
  exact ⟨M, by omega, h4.1, by unfold readM; rw [if_neg (by omega), if_neg (by omega), if_neg (by omega), if_pos (by omega)]; exact h4.2, h1, h5, h6⟩
theorem one_rec {a b : Int} (ha : 0 ≤ a ∧ a ≤ 65535) (hb : 0 ≤ b ∧ b ≤ 65535) (hg : bestP a b ≠ 0) (t : ByteArray) (ht : 2 ≤ t.size) (hf : isFmt (w2 t 0) = true) : getM ((⟨(headC a b).toArray⟩ : ByteArray) ++ t) = readM t := by
 obtain ⟨s, hs⟩ : ∃ s, s = (⟨(headC a b).toArray⟩ : ByteArray) ++ t := ⟨_, rfl⟩
 rw [← hs]
 have hs2 : s = ⟨(headC a b ++ t.data.toList).toArray⟩ := by rw [hs, ba_more]
 have hsz : s.size = 12 + t.size := by rw [hs, ByteArray.size_append, ba_size, headC_length]
 have e0 : w2 s 0 = 0 := by
  rw [hs2]
  have := w2_at [] 0 (bytesN 1 2 ++ (bytesN a 2 ++ (bytesN b 2 ++ (bytesN 12 4 ++ []))) ++ t.data.toList) (by omega) (by omega) 0 rfl
  simpa only [headC, List.nil_append, List.append_assoc] using this
 have e2 : w2 s 2 = 1 := by
  rw [hs2]
  have := w2_at (bytesN 0 2) 1 (bytesN a 2 ++ (bytesN b 2 ++ (bytesN 12 4 ++ [])) ++ t.data.toList) (by omega) (by omega) 2 (by rw [bytesN_length])
  simpa only [headC, List.append_assoc] using this
 have e4 : w2 s 4 = a := by
  rw [hs2]
  have := w2_at (bytesN 0 2 ++ bytesN 1 2) a (bytesN b 2 ++ (bytesN 12 4 ++ []) ++ t.data.toList) (by omega) (by omega) 4 (by simp [bytesN_length])
  simpa only [headC, List.append_assoc] using this
 have e6 : w2 s 6 = b := by
  rw [hs2]
  have := w2_at (bytesN 0 2 ++ (bytesN 1 2 ++ bytesN a 2)) b (bytesN 12 4 ++ [] ++ t.data.toList) (by omega) (by omega) 6 (by simp [bytesN_length])
  simpa only [headC, List.append_assoc] using this
 have e8 : w4 s 8 = 12 := by
  rw [hs2]
  have := w4_at (bytesN 0 2 ++ (bytesN 1 2 ++ (bytesN a 2 ++ bytesN b 2))) 12 ([] ++ t.data.toList) (by omega) (by omega) 8 (by simp [bytesN_length])
  simpa only [headC, List.append_assoc] using this
 have hx : s.extract 12 s.size = t := by
  rw [hs2]
  have := ba_drop (headC a b) t.data.toList
  rw [headC_length] at this
  rw [this]
 have hw : w2 s 12 = w2 t 0 := by rw [← w2_in s 12 (by omega), hx]
 have hen : entM s 0 = ⟨bestP a b, 12⟩ := by
  unfold entM
  show (⟨bestP (w2 s 4) (w2 s 6), w4 s 8⟩ : S41) = _
  rw [e4, e6, e8]
 have hmay : mayM s ⟨bestP a b, 12⟩ = true := by
  unfold mayM
  have e12 : (12 : Int).toNat = 12 := rfl
  rw [decide_eq_true hg, e12, decide_eq_true (by omega), hw, hf]
  rfl
 have hents : entsM s 1 = [⟨bestP a b, 12⟩] := by
  rw [entsM_succ, hen, if_pos hmay]
  rfl
 unfold getM
 have e1 : (1 : Int).toNat = 1 := rfl
 rw [if_neg (by omega), e0, e2, if_neg (by decide), if_neg (by decide), if_neg (by omega), e1, hents]
 show (if true = false then _ else readM (s.extract 12 s.size)) = _
 rw [if_neg (by decide), hx]
theorem put_back {l : List S50} {n : Int} (h : (putM l n).2 = 0) : ∃ M, isFmt n = true ∧ (formM l n).2 = 0 ∧ Back l (formM l n).1 n M ∧ (putM l n).1.size = 12 + (formM l n).1.size ∧ getM (putM l n).1 = (M, 0) ∧ (putM l n).1.extract 12 (putM l n).1.size = (formM l n).1 := by
 by_cases hf : isFmt n = true
 case neg => rw [putM_not (by cases hh : isFmt n with | true => exact absurd hh hf | false => rfl)] at h; exact absurd (show (1 : Int) = 0 from h) (by decide)
 rw [putM_form hf] at h ⊢
 unfold wrapC at h ⊢
 by_cases h0 : (formM l n).2 ≠ 0
 · rw [if_pos h0] at h; exact absurd h h0
 rw [if_neg h0]
 have h0 : (formM l n).2 = 0 := Decidable.of_not_not h0
 obtain ⟨M, hB⟩ := form_back hf h0
 obtain ⟨b1, b2, b3, b4⟩ := kind_bd n
 refine ⟨M, hf, h0, hB, by show (_ ++ _ : ByteArray).size = _; rw [ByteArray.size_append, ba_size, headC_length], ?_, ?_⟩
 ·
  show getM (_ ++ _) = _
  rw [one_rec ⟨b1, b2⟩ ⟨b3, b4⟩ (kind_good hf) _ hB.z (by rw [hB.w]; exact hf), hB.g]
 ·
  show ByteArray.extract (_ ++ _) 12 (ByteArray.size (_ ++ _)) = _
  rw [ba_more]
  have := ba_drop (headC (kindP n) (kindE n)) (formM l n).1.data.toList
  rw [headC_length] at this
  rw [this]
end Go.Proofs.Ytejdflndgnpkcaa.P
end
section
namespace Go.Proofs.Ytejdflndgnpkcaa.P
open Go.RowKit Go.Proofs.YtejdflndgnpkcaaW.PrintWords Go.Proofs.YtejdflndgnpkcaaW.PrintLast Go.Proofs.YtejdflndgnpkcaaW.PrintMore
theorem short10_loop (l : List S50) (hl : l.length ≤ 60) (d : Nat) : ∀ k i, l.length - i = d → i ≤ l.length → 2 * d + 3 ≤ k → ∃ b, vinculumref10_Short.l0 k l (i : Int) = some b := by
 induction d with
 | zero =>
  intro k i hd hi hk
  obtain ⟨k, rfl⟩ : ∃ n, k = n + 2 := ⟨k - 2, by omega⟩
  simp only [vinculumref10_Short.l0]
  rw [if_neg (by omega)]
  simp only [vinculumref10_Short.j1]
  exact ⟨_, rfl⟩
 | succ d ih =>
  intro k i hd hi hk
  obtain ⟨k, rfl⟩ : ∃ n, k = n + 2 := ⟨k - 2, by omega⟩
  have hw : wrap64 ((i : Int) + 1) = ((i + 1 : Nat) : Int) := by unfold wrap64; omega
  obtain ⟨b, hb⟩ := ih k (i + 1) (by omega) (by omega) (by omega)
  simp only [vinculumref10_Short.l0]
  rw [if_pos (by omega), decide_eq_true (show (l.length : Int) ≤ 60 by omega)]
  simp only [vinculumref10_Short.j1]
  rw [if_pos trivial, if_pos (by omega), if_pos (by omega), hw, hb]
  split
  ·
   split
   · exact ⟨_, rfl⟩
   · exact ⟨_, rfl⟩
  · exact ⟨_, rfl⟩
theorem short10_told (l : List S50) (k : Nat) (hk : 200 ≤ k) : ∃ b, vinculumref10_Short.f k l = some b ∧ (b = true → l.length ≤ 60) := by
 by_cases hl : l.length ≤ 60
 ·
  obtain ⟨b, hb⟩ := short10_loop l hl l.length k 0 rfl (by omega) (by omega)
  exact ⟨b, hb, fun _ => hl⟩
 ·
  refine ⟨false, ?_, fun h => absurd h (by decide)⟩
  obtain ⟨k, rfl⟩ : ∃ n, k = n + 2 := ⟨k - 2, by omega⟩
  unfold vinculumref10_Short.f
  simp only [vinculumref10_Short.l0]
  rw [if_pos (by omega), decide_eq_false (show ¬ (l.length : Int) ≤ 60 by omega)]
  simp only [vinculumref10_Short.j1]
  rw [if_neg Bool.false_ne_true, decide_eq_false (show ¬ (l.length : Int) ≤ 60 by omega)]
end Go.Proofs.Ytejdflndgnpkcaa.P
end
section
namespace Go.Proofs.Ytejdflndgnpkcaa.P
open Go.RowKit Go.Proofs.YtejdflndgnpkcaaW.PrintWords Go.Proofs.YtejdflndgnpkcaaW.PrintLast Go.Proofs.YtejdflndgnpkcaaW.PrintMore
theorem short_told (l : List S50) (k : Nat) (hk : 200000 ≤ k) : ∃ b, vinculumref08_Short.f k l = some b := by
 unfold vinculumref08_Short.f
 rw [is_ref8 l k (.inl (by omega)), Option.bind_some]
 cases h : isL l with
 | false => exact ⟨true, by rw [if_neg Bool.false_ne_true]⟩
 | true =>
  have := (isL_all h).1
  rw [if_pos rfl, ends_ref h k (by omega), Option.bind_some]
  by_cases h2 : (endsR l).2.2 = true
  ·
   rw [if_pos h2]
   by_cases h3 : wrap64 ((endsR l).2.1 - (endsR l).1) < 2000
   · exact ⟨true, by rw [if_pos h3]⟩
   ·
    rw [if_neg h3]
    by_cases h4 : (endsR l).2.1 > 65535
    · exact ⟨true, by rw [if_pos h4]⟩
    · exact ⟨_, by rw [if_neg h4]⟩
  · exact ⟨true, by rw [if_neg h2]⟩
end Go.Proofs.Ytejdflndgnpkcaa.P
end
section
namespace Go.Proofs.Ytejdflndgnpkcaa.P
open Go.RowKit Go.Proofs.YtejdflndgnpkcaaW.PrintWords Go.Proofs.YtejdflndgnpkcaaW.PrintLast Go.Proofs.YtejdflndgnpkcaaW.PrintMore
theorem short09_loop (l : List S50) (hl : l.length ≤ 60) (d : Nat) : ∀ k a i, l.length - i = d → i ≤ l.length → 2 * d + 3 ≤ k → ∃ b, vinculumref09_Short.l0 k l a (i : Int) = some b := by
 induction d with
 | zero =>
  intro k a i hd hi hk
  obtain ⟨k, rfl⟩ : ∃ n, k = n + 2 := ⟨k - 2, by omega⟩
  simp only [vinculumref09_Short.l0]
  rw [if_neg (by omega)]
  simp only [vinculumref09_Short.j1]
  rw [if_neg Bool.false_ne_true]
  split <;> exact ⟨_, rfl⟩
 | succ d ih =>
  intro k a i hd hi hk
  obtain ⟨k, rfl⟩ : ∃ n, k = n + 2 := ⟨k - 2, by omega⟩
  have hw : wrap64 ((i : Int) + 1) = ((i + 1 : Nat) : Int) := by unfold wrap64; omega
  simp only [vinculumref09_Short.l0]
  rw [if_pos (by omega), decide_eq_true (show (l.length : Int) ≤ 60 by omega)]
  simp only [vinculumref09_Short.j1]
  rw [if_pos trivial, if_pos (by omega), if_pos (by omega), hw]
  split
  · exact ih k _ (i + 1) (by omega) (by omega) (by omega)
  · exact ih k _ (i + 1) (by omega) (by omega) (by omega)
theorem short09_told (l : List S50) (k : Nat) (hk : 200 ≤ k) : ∃ b, vinculumref09_Short.f k l = some b ∧ (b = true → l.length ≤ 60) := by
 by_cases hl : l.length ≤ 60
 ·
  obtain ⟨b, hb⟩ := short09_loop l hl l.length k 0 0 rfl (by omega) (by omega)
  exact ⟨b, hb, fun _ => hl⟩
 ·
  refine ⟨false, ?_, fun h => absurd h (by decide)⟩
  obtain ⟨k, rfl⟩ : ∃ n, k = n + 2 := ⟨k - 2, by omega⟩
  unfold vinculumref09_Short.f
  simp only [vinculumref09_Short.l0]
  rw [if_pos (by omega), decide_eq_false (show ¬ (l.length : Int) ≤ 60 by omega)]
  simp only [vinculumref09_Short.j1]
  rw [if_neg Bool.false_ne_true, if_neg (show ¬ (l.length : Int) ≤ 60 by omega)]
def P0 : List S50 := [⟨65, 70, 3, 1⟩, ⟨80, 81, 9, 0⟩]
def P1 : List S50 := [⟨65, 70, 3, 1⟩, ⟨80, 81, 9, 0⟩, ⟨65535, 65535, 0, 1⟩]
def P2 : List S50 := [⟨65, 70, 3, 1⟩, ⟨80, 80, 9, 1⟩, ⟨81, 81, 9, 1⟩, ⟨65535, 65535, 0, 1⟩]
end Go.Proofs.Ytejdflndgnpkcaa.P
end
section
namespace Go.Proofs.Ytejdflndgnpkcaa.P
open Go.RowKit Go.Proofs.YtejdflndgnpkcaaW.PrintWords Go.Proofs.YtejdflndgnpkcaaW.PrintLast Go.Proofs.YtejdflndgnpkcaaW.PrintMore
theorem short11_told (l : List S50) (k : Nat) (hk : 200000 ≤ k) : ∃ b, vinculumref11_Short.f k l = some b ∧ (b = true → l.length ≤ 60) := by
 obtain ⟨b1, h1⟩ := short_told l k hk
 obtain ⟨b2, h2, g2⟩ := short09_told l k (by omega)
 obtain ⟨b3, h3, _⟩ := short10_told l k (by omega)
 unfold vinculumref11_Short.f
 rw [h1, Option.bind_some]
 cases b1 with
 | false => rw [if_neg Bool.false_ne_true]; exact ⟨false, rfl, fun h => absurd h (by decide)⟩
 | true =>
  rw [if_pos rfl, h2, Option.bind_some]
  cases b2 with
  | false => rw [if_neg Bool.false_ne_true]; exact ⟨false, rfl, fun h => absurd h (by decide)⟩
  | true => rw [if_pos rfl, h3, Option.bind_some]; exact ⟨b3, rfl, fun _ => g2 rfl⟩
def glyM (l : List S50) (c g : Int) : Int × Int := if isL l = false then (0, 1) else if lookN l c = 0 then (0, 10) else if g ≤ lookN l c then (0, 10) else (lookN l c, 0)
theorem glyph_told (l : List S50) (c g : Int) : cmap_Glyph.f l c g = some (glyM l c g) := by
 have his : chart_Is.f l = some (isL l) := rfl
 unfold cmap_Glyph.f glyM
 rw [his, Option.bind_some]
 cases h : isL l with
 | false => rw [if_neg Bool.false_ne_true, if_pos rfl]
 | true =>
  rw [if_pos rfl, if_neg (show ¬ true = false by decide), look_told, Option.bind_some]
  unfold glyphOf
  rw [h, if_pos rfl]
  by_cases h0 : lookN l c = 0
  · rw [if_pos h0, if_pos h0]
  ·
   rw [if_neg h0, if_neg h0]
   by_cases h1 : g ≤ lookN l c
   · rw [if_pos h1, if_pos h1]
   · rw [if_neg h1, if_neg h1]
def C0 : List S50 := [⟨65, 66, 3, 1⟩]
theorem c0_put : (putM C0 4).2 = 0 := by kernel_rfl
structure Grp (t : ByteArray) (f : Int) (L : List S50) : Prop where
 z : 16 ≤ t.size
 y : t.size ≤ 800000
 ff : f = 12 ∨ f = 13
 h : ∀ m : ByteArray, w2 (t ++ m) 0 = f ∧ getG (t ++ m) = (L, 0)
 j : isL L = true
theorem Grp.more {t : ByteArray} {f : Int} {L : List S50} (g : Grp t f L) (m : ByteArray) : readM (t ++ m) = (L, 0) := by
 have h1 := (g.h m).1
 have h2 := g.ff
 have h3 := g.z
 have h4 : (t ++ m).size = t.size + m.size := ByteArray.size_append
 unfold readM
 rw [if_neg (by omega), if_neg (by omega), if_neg (by omega), if_pos (by omega)]
 exact (g.h m).2
theorem Grp.form {t : ByteArray} {f : Int} {L : List S50} (g : Grp t f L) (m : ByteArray) : isFmt (w2 (t ++ m) 0) = true := by
 rw [(g.h m).1]
 rcases g.ff with rfl | rfl <;> rfl
end Go.Proofs.Ytejdflndgnpkcaa.P
end
section
namespace Go.Proofs.Ytejdflndgnpkcaa.P
open Go.RowKit Go.Proofs.YtejdflndgnpkcaaW.PrintWords Go.Proofs.YtejdflndgnpkcaaW.PrintLast Go.Proofs.YtejdflndgnpkcaaW.PrintMore
theorem one_C (w : World) (x : S50) : Kd.C k50 (w.alloc (.cells #[.int .i64 x.f0, .int .i64 x.f1, .int .i64 x.f2, .int .i64 x.f3] 50)) (some ⟨w.heap.size, 0, none⟩) 1 [x] := by
 have hc := heap_alloc_new w (.cells #[.int .i64 x.f0, .int .i64 x.f1, .int .i64 x.f2, .int .i64 x.f3] 50)
 refine ⟨rfl, by decide, fun _ => ⟨_, rfl, fun j q hj => ?_⟩⟩
 match j, hj with
 | 0, hj =>
  have hq : x = q := by simpa using hj
  subst hq
  refine ⟨[.int .i64 x.f0, .int .i64 x.f1, .int .i64 x.f2, .int .i64 x.f3], rfl, k50_mk _ x, fun i u hu => ?_⟩
  match i, hu with
  | 0, hu => rw [← (show Value.int .i64 x.f0 = u by simpa using hu)]; exact (blk_cell hc 0).trans rfl
  | 1, hu => rw [← (show Value.int .i64 x.f1 = u by simpa using hu)]; exact (blk_cell hc 1).trans rfl
  | 2, hu => rw [← (show Value.int .i64 x.f2 = u by simpa using hu)]; exact (blk_cell hc 2).trans rfl
  | 3, hu => rw [← (show Value.int .i64 x.f3 = u by simpa using hu)]; exact (blk_cell hc 3).trans rfl
  | n + 4, hu => simp at hu
 | n + 1, hj => simp at hj
def vinculumlaw11_mapped.f : Option Bool := some true
set_option maxRecDepth 100000 in
set_option maxHeartbeats 4000000 in
theorem vinculumlaw11_mapped.calls (r : Bool) (w : World) (h : vinculumlaw11_mapped.f = some r) :
  Calls Try.prog 8 #[] w fun e w' => e = .returned (.bool r) ∧ Below w.heap.size w w' := by
 obtain rfl := Option.some.inj h
 clear h
 obtain ⟨M, _, _, hB, _, hg, _⟩ := put_back c0_put
 have hl : ∀ c g, cmap_Glyph.f M c g = some (glyM C0 c g) := fun c g => by
  rw [glyph_told]
  unfold glyM
  rw [hB.j, hB.i, hB.k c]
 have g1 : glyM C0 66 5 = (4, 0) := by decide +kernel
 have g2 : glyM C0 67 5 = (0, 10) := by decide +kernel
 have g3 : glyM C0 66 4 = (0, 10) := by decide +kernel
 have H1 := Lib.hid ((hl 66 5).trans (congrArg some g1))
 have H2 := Lib.hid ((hl 67 5).trans (congrArg some g2))
 have H3 := Lib.hid ((hl 66 4).trans (congrArg some g3))
 have HP := Lib.hid (show cmap_Put.f C0 4 = some ((putM C0 4).1, 0) by show some (putM C0 4) = _; rw [← c0_put])
 have HG := Lib.hid (show cmap_Get.f (putM C0 4).1 = some (M, 0) by show some (getM (putM C0 4).1) = _; rw [hg])
 have HZ := Lib.hid (show cmap_Get.f (⟨#[0, 0, 0, 0]⟩ : ByteArray) = some ([], 6) by kernel_rfl)
 have B1 := Lib.hid ((best_told 3 10 20 (Nat.le_refl _)).trans (show some (bestP 3 10) = some 9 by decide))
 have B2 := Lib.hid ((best_told 2 0 20 (Nat.le_refl _)).trans (show some (bestP 2 0) = some 0 by decide))
 obtain ⟨s, hs⟩ : ∃ s, s = (putM C0 4).1 := ⟨_, rfl⟩
 rw [← hs] at HP HG
 clear hB hg hl g1 g2 g3 hs
 go_enter Try.func8, Try.ntmps8
 go_wp2_with fail
 have C1 := one_C w ⟨65, 66, 3, 1⟩
 refine (cmap_Put.calls _ 1 C0 4 s 0 _ C1 (Nat.le_refl _) HP.out).mono ?_
 rintro e w1 ⟨rfl, hb⟩
 have HB1 := Lib.hid ((below_alloc (Below.refl w.heap.size w) _).trans (hb.mono (by simp)))
 clear hb C1
 go_wp2_with fail
 refine (cmap_Get.calls s M 0 w1 HG.out).mono ?_
 rintro e w2 ⟨v, rfl, hr, hb⟩
 obtain ⟨A2, k2, rfl⟩ := Kd.R_slice hr
 obtain ⟨_, _, e0, hk2, C2⟩ := Kd.R_reads hr
 injection e0 with e1 e2 e3
 subst e1
 subst e3
 have HB2 := Lib.hid (HB1.out.trans (hb.mono HB1.out.size))
 have HC2 := Lib.hid C2
 have HK2 := Lib.hid hk2
 clear hr hb C2 hk2 e2
 go_wp2_with fail
 refine (cmap_Glyph.calls A2 k2 M 66 5 4 0 w2 HC2.out HK2.out H1.out).mono ?_
 rintro e w3 ⟨rfl, hb⟩
 have HB3 := Lib.hid (HB2.out.trans (hb.mono HB2.out.size))
 have HC3 := Lib.hid (Kd.C_below HC2.out hb)
 clear hb HC2
 go_wp2_with fail
 refine (cmap_Glyph.calls A2 k2 M 67 5 0 10 w3 HC3.out HK2.out H2.out).mono ?_
 rintro e w4 ⟨rfl, hb⟩
 have HB4 := Lib.hid (HB3.out.trans (hb.mono HB3.out.size))
 have HC4 := Lib.hid (Kd.C_below HC3.out hb)
 clear hb HC3
 go_wp2_with fail
 refine (cmap_Glyph.calls A2 k2 M 66 4 0 10 w4 HC4.out HK2.out H3.out).mono ?_
 rintro e w5 ⟨rfl, hb⟩
 have HB5 := Lib.hid (HB4.out.trans (hb.mono HB4.out.size))
 clear hb HC4 HK2
 go_wp2_with fail
 refine (cmap_Get.calls _ [] 6 w5 HZ.out).mono ?_
 rintro e w6 ⟨v, rfl, hr, hb⟩
 obtain ⟨A6, k6, rfl⟩ := Kd.R_slice hr
 have HB6 := Lib.hid (HB5.out.trans (hb.mono HB5.out.size))
 clear hr hb
 go_wp2_with fail
 refine (cmap_Best.calls 20 3 10 9 w6 B1.out).mono ?_
 rintro e w7 ⟨rfl, hb⟩
 have HB7 := Lib.hid (HB6.out.trans (hb.mono HB6.out.size))
 clear hb
 go_wp2_with fail
 refine (cmap_Best.calls 20 2 0 0 w7 B2.out).mono ?_
 rintro e w8 ⟨rfl, hb⟩
 have HB8 := Lib.hid (HB7.out.trans (hb.mono HB7.out.size))
 clear hb
 go_wp2
 go_ret
 exact ⟨rfl, HB8.out⟩
end Go.Proofs.Ytejdflndgnpkcaa.P
end
section
namespace Go.Proofs.Ytejdflndgnpkcaa.P
open Go.RowKit Go.Proofs.YtejdflndgnpkcaaW.PrintWords Go.Proofs.YtejdflndgnpkcaaW.PrintLast Go.Proofs.YtejdflndgnpkcaaW.PrintMore
attribute [local go_sem] max2_int min2_int max_two min_two max_three min_three max_four min_four
def vinculumlaw11_CmapFormats.j0 : Nat → Int → Int → ByteArray → ByteArray → Bool → Option (Bool)
 | 0, _, _, _, _, _ => none
 | k + 1, x3, x4, x11, x13, x43 => if x43 = true then ((vinculumlaw11_mapped.f).bind fun t238 => (some t238)) else ((cmap_Get.f x11).bind fun bt239 => ((cmap_Get.f x13).bind fun bt243 => ((cmap_Glyph.f bt239.1 x3 x4).bind fun bt247 => ((cmap_Glyph.f bt243.1 x3 x4).bind fun bt249 => ((vinculumlaw11_mapped.f).bind fun t251 => (if t251 = true then (if bt239.2 = 0 then (if bt243.2 = 0 then (if bt247.1 = bt249.1 then (if bt247.2 = bt249.2 then (if bt247.2 = 0 then (if bt247.1 > 0 then (if bt247.1 < x4 then (some true) else (if bt247.2 = 10 then (some (bt247.1 == 0)) else (some false))) else (if bt247.2 = 10 then (some (bt247.1 == 0)) else (some false))) else (if bt247.2 = 10 then (some (bt247.1 == 0)) else (some false))) else (some false)) else (some false)) else (some false)) else (some false)) else (some false)))))))
def vinculumlaw11_CmapFormats.f (k : Nat) (l0 : List (S50)) (a1 : Int) (a2 : Int) (a3 : Int) (a4 : Int) : Option (Bool) := (vinculumref11_Short.f k l0).bind fun t233 => (if t233 = true then ((cmap_Put.f l0 a1).bind fun bt234 => ((cmap_Put.f l0 a2).bind fun bt236 => (if bt234.2 = 0 then (vinculumlaw11_CmapFormats.j0 k a3 a4 bt234.1 bt236.1 (bt236.2 != 0)) else (vinculumlaw11_CmapFormats.j0 k a3 a4 bt234.1 bt236.1 true)))) else (some true))
set_option maxHeartbeats 8000000 in
set_option maxRecDepth 100000 in
theorem vinculumlaw11_CmapFormats.calls (k : Nat) (A0 : Option Addr) (c0 : Nat) (l0 : List (S50)) (a1 : Int) (a2 : Int) (a3 : Int) (a4 : Int) (r : Bool) (w : World) (hr0 : Kd.C k50 w A0 l0.length l0) (hc0 : l0.length ≤ c0) (h : vinculumlaw11_CmapFormats.f k l0 a1 a2 a3 a4 = some r) :
  Calls Try.prog 3 #[.slice A0 l0.length c0, .int .i64 a1, .int .i64 a2, .int .i64 a3, .int .i64 a4] w fun e w' => e = .returned (.bool r) ∧ Below w.heap.size w w' := by
 have HR0 := Aside0.mk hr0
 have HC0 := Aside0.mk hc0
 clear hr0 hc0
 have HB := Aside0.mk (Below.refl w.heap.size w)
 have H : ((vinculumref11_Short.f k l0).bind fun t233 => (if t233 = true then ((cmap_Put.f l0 a1).bind fun bt234 => ((cmap_Put.f l0 a2).bind fun bt236 => (if bt234.2 = 0 then (vinculumlaw11_CmapFormats.j0 k a3 a4 bt234.1 bt236.1 (bt236.2 != 0)) else (vinculumlaw11_CmapFormats.j0 k a3 a4 bt234.1 bt236.1 true)))) else (some true))) = some r := h
 clear h
 replace H := Option.bind_eq_some_iff.mp H
 obtain ⟨t233, A60, H⟩ := H
 try dsimp only at H
 have A6 := Aside0.mk A60
 clear A60
 by_cases c7 : t233 = true
 ·
  subst c7
  rw [if_pos rfl] at H
  replace H := Option.bind_eq_some_iff.mp H
  obtain ⟨⟨t234, t235⟩, A80, H⟩ := H
  try dsimp only at H
  have A8 := Aside0.mk A80
  clear A80
  replace H := Option.bind_eq_some_iff.mp H
  obtain ⟨⟨t236, t237⟩, A90, H⟩ := H
  try dsimp only at H
  have A9 := Aside0.mk A90
  clear A90
  have HC10 := Aside0.mk H
  clear H
  go_enter Try.func3, Try.ntmps3
  go_upto_region 5 with (first | ((with_reducible refine gate_callee (f := 6) rfl ?_); refine gL_ 24 Try.func6 #[.slice A0 l0.length c0] ?_; (with_reducible refine (vinculumref11_Short.calls k _ _ l0 true _ ?side1 ?side2 A6.out).mono ?_); (case side1 => exact cA HR0.out); (case side2 => exact HC0.out); rintro e w11 ⟨rfl, hb⟩; refine ⟨_, rfl, ?_⟩; have n0_ := Aside0.mk (below_step bA hb); clear HB; have HB := n0_; clear n0_; (try clear hb)) | ((with_reducible refine gate_callee (f := 7) rfl ?_); refine gL_ 29 Try.func7 #[.slice A0 l0.length c0, .int .i64 a1] ?_; (with_reducible refine (cmap_Put.calls _ _ l0 a1 t234 t235 _ ?side1 ?side2 A8.out).mono ?_); (case side1 => repeat (first | exact (Kd.C_below HR0.out HB.out) | (with_reducible refine Kd.C_alloc ?_ _) | (with_reducible refine Kd.C_drewN ?_ _) | (with_reducible refine Kd.C_drew ?_))); (case side2 => exact HC0.out); rintro e w12 ⟨rfl, hb⟩; refine ⟨_, rfl, ?_⟩; have n0_ := Aside0.mk (below_step bA hb); clear HB; have HB := n0_; clear n0_; (try clear hb)) | ((with_reducible refine gate_callee (f := 7) rfl ?_); refine gL_ 35 Try.func7 #[.slice A0 l0.length c0, .int .i64 a2] ?_; (with_reducible refine (cmap_Put.calls _ _ l0 a2 t236 t237 _ ?side1 ?side2 A9.out).mono ?_); (case side1 => repeat (first | exact (Kd.C_below HR0.out HB.out) | (with_reducible refine Kd.C_alloc ?_ _) | (with_reducible refine Kd.C_drewN ?_ _) | (with_reducible refine Kd.C_drew ?_))); (case side2 => exact HC0.out); rintro e w13 ⟨rfl, hb⟩; refine ⟨_, rfl, ?_⟩; have n0_ := Aside0.mk (below_step bA hb); clear HB; have HB := n0_; clear n0_; (try clear hb)))
  (try simp only [Act.put, List.setIfInBounds_toArray, List.set_cons_zero, List.set_cons_succ])
  go_cut [43] (fun v43 wc => ∃ (kq : Nat) (x43_9 : Bool), v43 = .bool x43_9 ∧ Aside0 (vinculumlaw11_CmapFormats.j0 kq a3 a4 t234 t236 x43_9 = some r) ∧ Aside0 (kq ≤ k) ∧ Aside0 (Below w.heap.size w wc))
  case first =>
   have H := HC10.out
   clear HC10
   by_cases c14 : t235 = 0
   ·
    rw [if_pos c14] at H
    have c14b0 : (t235 == 0) = true := beq_iff_eq.mpr c14
    have c14b1 : (t235 != 0) = false := bne_eq_false_iff_eq.mpr c14
    clear c14
    (first | rw [c14b0] | (simp only [i64_w, i32_w]; rw [c14b0]) | skip)
    have H' := Aside0.mk H
    clear H
    go_wp2
    go_meet
    case rel => exact ⟨_, ((t237 != 0)), gA, H', ⟨by first | omega | exact Nat.le_refl _⟩, ⟨bA⟩⟩
   ·
    rw [if_neg c14] at H
    have c14b0 : (t235 == 0) = false := beq_eq_false_iff_ne.mpr c14
    have c14b1 : (t235 != 0) = true := bne_iff_ne.mpr c14
    (first | rw [c14b0] | (simp only [i64_w, i32_w]; rw [c14b0]) | skip)
    have H' := Aside0.mk H
    clear H
    go_wp2
    go_meet
    case rel => exact ⟨_, (true), gA, H', ⟨by first | omega | exact Nat.le_refl _⟩, ⟨bA⟩⟩
  case rest =>
   clear HC10
   try clear c1
   try clear p2
   try clear c3
   try clear c6
   try clear c7
   try clear c14
   try clear c14b0
   try clear c14b1
   obtain ⟨kq, x43_9, rfl, HA, HJ9, HB⟩ := hcut
   cases kq with
   | zero => exact absurd HA.out (by simp [vinculumlaw11_CmapFormats.j0])
   | succ kj9 =>
    have H := HA.out
    clear HA
    simp only [vinculumlaw11_CmapFormats.j0] at H
    by_cases c15 : x43_9 = true
    ·
     subst c15
     rw [if_pos rfl] at H
     replace H := Option.bind_eq_some_iff.mp H
     obtain ⟨t238, A160, H⟩ := H
     try dsimp only at H
     have A16 := Aside0.mk A160
     clear A160
     obtain rfl := Option.some.inj H
     go_wp2_with (first | ((with_reducible refine gate_callee (f := 8) rfl ?_); refine gL_ 44 Try.func8 #[] ?_; (with_reducible refine (vinculumlaw11_mapped.calls  t238 _ A16.out).mono ?_); rintro e w17 ⟨rfl, hb⟩; refine ⟨_, rfl, ?_⟩; have n0_ := Aside0.mk (below_step bA hb); clear HB; have HB := n0_; clear n0_; (try clear hb)))
     go_ret
     exact ⟨eA, bA⟩
    ·
     replace c15 := Bool.eq_false_iff.mpr c15
     subst c15
     rw [if_neg Bool.false_ne_true] at H
     replace H := Option.bind_eq_some_iff.mp H
     obtain ⟨⟨t239, t240⟩, A180, H⟩ := H
     try dsimp only at H
     have A18 := Aside0.mk A180
     clear A180
     replace H := Option.bind_eq_some_iff.mp H
     obtain ⟨⟨t243, t244⟩, A190, H⟩ := H
     try dsimp only at H
     have A19 := Aside0.mk A190
     clear A190
     replace H := Option.bind_eq_some_iff.mp H
     obtain ⟨⟨t247, t248⟩, A200, H⟩ := H
     try dsimp only at H
     have A20 := Aside0.mk A200
     clear A200
     replace H := Option.bind_eq_some_iff.mp H
     obtain ⟨⟨t249, t250⟩, A210, H⟩ := H
     try dsimp only at H
     have A21 := Aside0.mk A210
     clear A210
     replace H := Option.bind_eq_some_iff.mp H
     obtain ⟨t251, A220, H⟩ := H
     try dsimp only at H
     have A22 := Aside0.mk A220
     clear A220
     by_cases c23 : t251 = true
     ·
      subst c23
      rw [if_pos rfl] at H
      by_cases c24 : t240 = 0
      ·
       rw [if_pos c24] at H
       have c24b0 : (t240 == 0) = true := beq_iff_eq.mpr c24
       have c24b1 : (t240 != 0) = false := bne_eq_false_iff_eq.mpr c24
       clear c24
       by_cases c25 : t244 = 0
       ·
        rw [if_pos c25] at H
        have c25b0 : (t244 == 0) = true := beq_iff_eq.mpr c25
        have c25b1 : (t244 != 0) = false := bne_eq_false_iff_eq.mpr c25
        clear c25
        by_cases c26 : t247 = t249
        ·
         rw [if_pos c26] at H
         have c26b0 : (t247 == t249) = true := beq_iff_eq.mpr c26
         have c26b1 : (t247 != t249) = false := bne_eq_false_iff_eq.mpr c26
         clear c26
         by_cases c27 : t248 = t250
         ·
          rw [if_pos c27] at H
          have c27b0 : (t248 == t250) = true := beq_iff_eq.mpr c27
          have c27b1 : (t248 != t250) = false := bne_eq_false_iff_eq.mpr c27
          clear c27
          by_cases c28 : t248 = 0
          ·
           rw [if_pos c28] at H
           have c28b0 : (t248 == 0) = true := beq_iff_eq.mpr c28
           have c28b1 : (t248 != 0) = false := bne_eq_false_iff_eq.mpr c28
           clear c28
           by_cases c29 : t247 > 0
           ·
            rw [if_pos c29] at H
            have c29b0 : decide (0 < t247) = true := decide_eq_true c29
            clear c29
            by_cases c30 : t247 < a4
            ·
             rw [if_pos c30] at H
             have c30b0 : decide (t247 < a4) = true := decide_eq_true c30
             clear c30
             obtain rfl := Option.some.inj H
             go_wp2_with (first | ((with_reducible refine gate_callee (f := 9) rfl ?_); refine gL_ 47 Try.func9 #[.string t234] ?_; (with_reducible refine (cmap_Get.calls t234 t239 t240 _ A18.out).mono ?_); rintro e w31 ⟨v241, rfl, ho0, hb⟩; refine ⟨_, rfl, ?_⟩; have HO242 := Aside0.mk (Kd.R_lower ho0 (below_size bA)); replace HB := Aside0.mk (below_step bA hb); (try clear hb ho0)) | ((with_reducible refine gate_callee (f := 9) rfl ?_); refine gL_ 52 Try.func9 #[.string t236] ?_; (with_reducible refine (cmap_Get.calls t236 t243 t244 _ A19.out).mono ?_); rintro e w32 ⟨v245, rfl, ho0, hb⟩; refine ⟨_, rfl, ?_⟩; have HO246 := Aside0.mk (Kd.R_lower (Kd.R_new' ho0 (Kd.R_lt (rA HO242.out))) (below_size bA)); replace HO242 := eL HO242 ho0 hb; replace HB := Aside0.mk (below_step bA hb); (try clear hb ho0); obtain ⟨Ao33, co33, eo33⟩ := Kd.R_slice HO242.out; subst eo33) | ((with_reducible refine gate_callee (f := 10) rfl ?_); refine gL_ 59 Try.func10 #[.slice Ao33 t239.length co33, .int .i64 a3, .int .i64 a4] ?_; (with_reducible refine (cmap_Glyph.calls _ _ t239 a3 a4 t247 t248 _ ?side1 ?side2 A20.out).mono ?_); (case side1 => exact cA (Kd.R_reads' HO242.out).2.2); (case side2 => exact (Kd.R_reads' HO242.out).2.1); rintro e w34 ⟨rfl, hb⟩; refine ⟨_, rfl, ?_⟩; replace HO242 := Aside0.mk (Kd.R_below (rA HO242.out) hb); replace HO246 := Aside0.mk (Kd.R_below (rA HO246.out) hb); replace HB := Aside0.mk (below_step bA hb); (try clear hb); obtain ⟨Ao35, co35, eo35⟩ := Kd.R_slice HO246.out; subst eo35) | ((with_reducible refine gate_callee (f := 10) rfl ?_); refine gL_ 66 Try.func10 #[.slice Ao35 t243.length co35, .int .i64 a3, .int .i64 a4] ?_; (with_reducible refine (cmap_Glyph.calls _ _ t243 a3 a4 t249 t250 _ ?side1 ?side2 A21.out).mono ?_); (case side1 => exact cA (Kd.R_reads' HO246.out).2.2); (case side2 => exact (Kd.R_reads' HO246.out).2.1); rintro e w36 ⟨rfl, hb⟩; refine ⟨_, rfl, ?_⟩; replace HO242 := Aside0.mk (Kd.R_below (rA HO242.out) hb); replace HO246 := Aside0.mk (Kd.R_below (rA HO246.out) hb); replace HB := Aside0.mk (below_step bA hb); (try clear hb)) | ((with_reducible refine gate_callee (f := 8) rfl ?_); refine gL_ 69 Try.func8 #[] ?_; (with_reducible refine (vinculumlaw11_mapped.calls  true _ A22.out).mono ?_); rintro e w37 ⟨rfl, hb⟩; refine ⟨_, rfl, ?_⟩; replace HO242 := Aside0.mk (Kd.R_below (rA HO242.out) hb); replace HO246 := Aside0.mk (Kd.R_below (rA HO246.out) hb); replace HB := Aside0.mk (below_step bA hb); (try clear hb)))
             go_ret
             exact ⟨eA, bA⟩
            ·
             rw [if_neg c30] at H
             have c30b0 : decide (t247 < a4) = false := decide_eq_false c30
             clear c30
             by_cases c38 : t248 = 10
             ·
              rw [if_pos c38] at H
              have c38b0 : (t248 == 10) = true := beq_iff_eq.mpr c38
              have c38b1 : (t248 != 10) = false := bne_eq_false_iff_eq.mpr c38
              clear c38
              obtain rfl := Option.some.inj H
              go_wp2_with (first | ((with_reducible refine gate_callee (f := 9) rfl ?_); refine gL_ 47 Try.func9 #[.string t234] ?_; (with_reducible refine (cmap_Get.calls t234 t239 t240 _ A18.out).mono ?_); rintro e w39 ⟨v241, rfl, ho0, hb⟩; refine ⟨_, rfl, ?_⟩; have HO242 := Aside0.mk (Kd.R_lower ho0 (below_size bA)); replace HB := Aside0.mk (below_step bA hb); (try clear hb ho0)) | ((with_reducible refine gate_callee (f := 9) rfl ?_); refine gL_ 52 Try.func9 #[.string t236] ?_; (with_reducible refine (cmap_Get.calls t236 t243 t244 _ A19.out).mono ?_); rintro e w40 ⟨v245, rfl, ho0, hb⟩; refine ⟨_, rfl, ?_⟩; have HO246 := Aside0.mk (Kd.R_lower (Kd.R_new' ho0 (Kd.R_lt (rA HO242.out))) (below_size bA)); replace HO242 := eL HO242 ho0 hb; replace HB := Aside0.mk (below_step bA hb); (try clear hb ho0); obtain ⟨Ao41, co41, eo41⟩ := Kd.R_slice HO242.out; subst eo41) | ((with_reducible refine gate_callee (f := 10) rfl ?_); refine gL_ 59 Try.func10 #[.slice Ao41 t239.length co41, .int .i64 a3, .int .i64 a4] ?_; (with_reducible refine (cmap_Glyph.calls _ _ t239 a3 a4 t247 t248 _ ?side1 ?side2 A20.out).mono ?_); (case side1 => exact cA (Kd.R_reads' HO242.out).2.2); (case side2 => exact (Kd.R_reads' HO242.out).2.1); rintro e w42 ⟨rfl, hb⟩; refine ⟨_, rfl, ?_⟩; replace HO242 := Aside0.mk (Kd.R_below (rA HO242.out) hb); replace HO246 := Aside0.mk (Kd.R_below (rA HO246.out) hb); replace HB := Aside0.mk (below_step bA hb); (try clear hb); obtain ⟨Ao43, co43, eo43⟩ := Kd.R_slice HO246.out; subst eo43) | ((with_reducible refine gate_callee (f := 10) rfl ?_); refine gL_ 66 Try.func10 #[.slice Ao43 t243.length co43, .int .i64 a3, .int .i64 a4] ?_; (with_reducible refine (cmap_Glyph.calls _ _ t243 a3 a4 t249 t250 _ ?side1 ?side2 A21.out).mono ?_); (case side1 => exact cA (Kd.R_reads' HO246.out).2.2); (case side2 => exact (Kd.R_reads' HO246.out).2.1); rintro e w44 ⟨rfl, hb⟩; refine ⟨_, rfl, ?_⟩; replace HO242 := Aside0.mk (Kd.R_below (rA HO242.out) hb); replace HO246 := Aside0.mk (Kd.R_below (rA HO246.out) hb); replace HB := Aside0.mk (below_step bA hb); (try clear hb)) | ((with_reducible refine gate_callee (f := 8) rfl ?_); refine gL_ 69 Try.func8 #[] ?_; (with_reducible refine (vinculumlaw11_mapped.calls  true _ A22.out).mono ?_); rintro e w45 ⟨rfl, hb⟩; refine ⟨_, rfl, ?_⟩; replace HO242 := Aside0.mk (Kd.R_below (rA HO242.out) hb); replace HO246 := Aside0.mk (Kd.R_below (rA HO246.out) hb); replace HB := Aside0.mk (below_step bA hb); (try clear hb)))
              go_ret
              exact ⟨eA, bA⟩
             ·
              rw [if_neg c38] at H
              have c38b0 : (t248 == 10) = false := beq_eq_false_iff_ne.mpr c38
              have c38b1 : (t248 != 10) = true := bne_iff_ne.mpr c38
              obtain rfl := Option.some.inj H
              go_wp2_with (first | ((with_reducible refine gate_callee (f := 9) rfl ?_); refine gL_ 47 Try.func9 #[.string t234] ?_; (with_reducible refine (cmap_Get.calls t234 t239 t240 _ A18.out).mono ?_); rintro e w46 ⟨v241, rfl, ho0, hb⟩; refine ⟨_, rfl, ?_⟩; have HO242 := Aside0.mk (Kd.R_lower ho0 (below_size bA)); replace HB := Aside0.mk (below_step bA hb); (try clear hb ho0)) | ((with_reducible refine gate_callee (f := 9) rfl ?_); refine gL_ 52 Try.func9 #[.string t236] ?_; (with_reducible refine (cmap_Get.calls t236 t243 t244 _ A19.out).mono ?_); rintro e w47 ⟨v245, rfl, ho0, hb⟩; refine ⟨_, rfl, ?_⟩; have HO246 := Aside0.mk (Kd.R_lower (Kd.R_new' ho0 (Kd.R_lt (rA HO242.out))) (below_size bA)); replace HO242 := eL HO242 ho0 hb; replace HB := Aside0.mk (below_step bA hb); (try clear hb ho0); obtain ⟨Ao48, co48, eo48⟩ := Kd.R_slice HO242.out; subst eo48) | ((with_reducible refine gate_callee (f := 10) rfl ?_); refine gL_ 59 Try.func10 #[.slice Ao48 t239.length co48, .int .i64 a3, .int .i64 a4] ?_; (with_reducible refine (cmap_Glyph.calls _ _ t239 a3 a4 t247 t248 _ ?side1 ?side2 A20.out).mono ?_); (case side1 => exact cA (Kd.R_reads' HO242.out).2.2); (case side2 => exact (Kd.R_reads' HO242.out).2.1); rintro e w49 ⟨rfl, hb⟩; refine ⟨_, rfl, ?_⟩; replace HO242 := Aside0.mk (Kd.R_below (rA HO242.out) hb); replace HO246 := Aside0.mk (Kd.R_below (rA HO246.out) hb); replace HB := Aside0.mk (below_step bA hb); (try clear hb); obtain ⟨Ao50, co50, eo50⟩ := Kd.R_slice HO246.out; subst eo50) | ((with_reducible refine gate_callee (f := 10) rfl ?_); refine gL_ 66 Try.func10 #[.slice Ao50 t243.length co50, .int .i64 a3, .int .i64 a4] ?_; (with_reducible refine (cmap_Glyph.calls _ _ t243 a3 a4 t249 t250 _ ?side1 ?side2 A21.out).mono ?_); (case side1 => exact cA (Kd.R_reads' HO246.out).2.2); (case side2 => exact (Kd.R_reads' HO246.out).2.1); rintro e w51 ⟨rfl, hb⟩; refine ⟨_, rfl, ?_⟩; replace HO242 := Aside0.mk (Kd.R_below (rA HO242.out) hb); replace HO246 := Aside0.mk (Kd.R_below (rA HO246.out) hb); replace HB := Aside0.mk (below_step bA hb); (try clear hb)) | ((with_reducible refine gate_callee (f := 8) rfl ?_); refine gL_ 69 Try.func8 #[] ?_; (with_reducible refine (vinculumlaw11_mapped.calls  true _ A22.out).mono ?_); rintro e w52 ⟨rfl, hb⟩; refine ⟨_, rfl, ?_⟩; replace HO242 := Aside0.mk (Kd.R_below (rA HO242.out) hb); replace HO246 := Aside0.mk (Kd.R_below (rA HO246.out) hb); replace HB := Aside0.mk (below_step bA hb); (try clear hb)))
              go_ret
              exact ⟨eA, bA⟩
           ·
            rw [if_neg c29] at H
            have c29b0 : decide (0 < t247) = false := decide_eq_false c29
            clear c29
            by_cases c53 : t248 = 10
            ·
             rw [if_pos c53] at H
             have c53b0 : (t248 == 10) = true := beq_iff_eq.mpr c53
             have c53b1 : (t248 != 10) = false := bne_eq_false_iff_eq.mpr c53
             clear c53
             obtain rfl := Option.some.inj H
             go_wp2_with (first | ((with_reducible refine gate_callee (f := 9) rfl ?_); refine gL_ 47 Try.func9 #[.string t234] ?_; (with_reducible refine (cmap_Get.calls t234 t239 t240 _ A18.out).mono ?_); rintro e w54 ⟨v241, rfl, ho0, hb⟩; refine ⟨_, rfl, ?_⟩; have HO242 := Aside0.mk (Kd.R_lower ho0 (below_size bA)); replace HB := Aside0.mk (below_step bA hb); (try clear hb ho0)) | ((with_reducible refine gate_callee (f := 9) rfl ?_); refine gL_ 52 Try.func9 #[.string t236] ?_; (with_reducible refine (cmap_Get.calls t236 t243 t244 _ A19.out).mono ?_); rintro e w55 ⟨v245, rfl, ho0, hb⟩; refine ⟨_, rfl, ?_⟩; have HO246 := Aside0.mk (Kd.R_lower (Kd.R_new' ho0 (Kd.R_lt (rA HO242.out))) (below_size bA)); replace HO242 := eL HO242 ho0 hb; replace HB := Aside0.mk (below_step bA hb); (try clear hb ho0); obtain ⟨Ao56, co56, eo56⟩ := Kd.R_slice HO242.out; subst eo56) | ((with_reducible refine gate_callee (f := 10) rfl ?_); refine gL_ 59 Try.func10 #[.slice Ao56 t239.length co56, .int .i64 a3, .int .i64 a4] ?_; (with_reducible refine (cmap_Glyph.calls _ _ t239 a3 a4 t247 t248 _ ?side1 ?side2 A20.out).mono ?_); (case side1 => exact cA (Kd.R_reads' HO242.out).2.2); (case side2 => exact (Kd.R_reads' HO242.out).2.1); rintro e w57 ⟨rfl, hb⟩; refine ⟨_, rfl, ?_⟩; replace HO242 := Aside0.mk (Kd.R_below (rA HO242.out) hb); replace HO246 := Aside0.mk (Kd.R_below (rA HO246.out) hb); replace HB := Aside0.mk (below_step bA hb); (try clear hb); obtain ⟨Ao58, co58, eo58⟩ := Kd.R_slice HO246.out; subst eo58) | ((with_reducible refine gate_callee (f := 10) rfl ?_); refine gL_ 66 Try.func10 #[.slice Ao58 t243.length co58, .int .i64 a3, .int .i64 a4] ?_; (with_reducible refine (cmap_Glyph.calls _ _ t243 a3 a4 t249 t250 _ ?side1 ?side2 A21.out).mono ?_); (case side1 => exact cA (Kd.R_reads' HO246.out).2.2); (case side2 => exact (Kd.R_reads' HO246.out).2.1); rintro e w59 ⟨rfl, hb⟩; refine ⟨_, rfl, ?_⟩; replace HO242 := Aside0.mk (Kd.R_below (rA HO242.out) hb); replace HO246 := Aside0.mk (Kd.R_below (rA HO246.out) hb); replace HB := Aside0.mk (below_step bA hb); (try clear hb)) | ((with_reducible refine gate_callee (f := 8) rfl ?_); refine gL_ 69 Try.func8 #[] ?_; (with_reducible refine (vinculumlaw11_mapped.calls  true _ A22.out).mono ?_); rintro e w60 ⟨rfl, hb⟩; refine ⟨_, rfl, ?_⟩; replace HO242 := Aside0.mk (Kd.R_below (rA HO242.out) hb); replace HO246 := Aside0.mk (Kd.R_below (rA HO246.out) hb); replace HB := Aside0.mk (below_step bA hb); (try clear hb)))
             go_ret
             exact ⟨eA, bA⟩
            ·
             rw [if_neg c53] at H
             have c53b0 : (t248 == 10) = false := beq_eq_false_iff_ne.mpr c53
             have c53b1 : (t248 != 10) = true := bne_iff_ne.mpr c53
             obtain rfl := Option.some.inj H
             go_wp2_with (first | ((with_reducible refine gate_callee (f := 9) rfl ?_); refine gL_ 47 Try.func9 #[.string t234] ?_; (with_reducible refine (cmap_Get.calls t234 t239 t240 _ A18.out).mono ?_); rintro e w61 ⟨v241, rfl, ho0, hb⟩; refine ⟨_, rfl, ?_⟩; have HO242 := Aside0.mk (Kd.R_lower ho0 (below_size bA)); replace HB := Aside0.mk (below_step bA hb); (try clear hb ho0)) | ((with_reducible refine gate_callee (f := 9) rfl ?_); refine gL_ 52 Try.func9 #[.string t236] ?_; (with_reducible refine (cmap_Get.calls t236 t243 t244 _ A19.out).mono ?_); rintro e w62 ⟨v245, rfl, ho0, hb⟩; refine ⟨_, rfl, ?_⟩; have HO246 := Aside0.mk (Kd.R_lower (Kd.R_new' ho0 (Kd.R_lt (rA HO242.out))) (below_size bA)); replace HO242 := eL HO242 ho0 hb; replace HB := Aside0.mk (below_step bA hb); (try clear hb ho0); obtain ⟨Ao63, co63, eo63⟩ := Kd.R_slice HO242.out; subst eo63) | ((with_reducible refine gate_callee (f := 10) rfl ?_); refine gL_ 59 Try.func10 #[.slice Ao63 t239.length co63, .int .i64 a3, .int .i64 a4] ?_; (with_reducible refine (cmap_Glyph.calls _ _ t239 a3 a4 t247 t248 _ ?side1 ?side2 A20.out).mono ?_); (case side1 => exact cA (Kd.R_reads' HO242.out).2.2); (case side2 => exact (Kd.R_reads' HO242.out).2.1); rintro e w64 ⟨rfl, hb⟩; refine ⟨_, rfl, ?_⟩; replace HO242 := Aside0.mk (Kd.R_below (rA HO242.out) hb); replace HO246 := Aside0.mk (Kd.R_below (rA HO246.out) hb); replace HB := Aside0.mk (below_step bA hb); (try clear hb); obtain ⟨Ao65, co65, eo65⟩ := Kd.R_slice HO246.out; subst eo65) | ((with_reducible refine gate_callee (f := 10) rfl ?_); refine gL_ 66 Try.func10 #[.slice Ao65 t243.length co65, .int .i64 a3, .int .i64 a4] ?_; (with_reducible refine (cmap_Glyph.calls _ _ t243 a3 a4 t249 t250 _ ?side1 ?side2 A21.out).mono ?_); (case side1 => exact cA (Kd.R_reads' HO246.out).2.2); (case side2 => exact (Kd.R_reads' HO246.out).2.1); rintro e w66 ⟨rfl, hb⟩; refine ⟨_, rfl, ?_⟩; replace HO242 := Aside0.mk (Kd.R_below (rA HO242.out) hb); replace HO246 := Aside0.mk (Kd.R_below (rA HO246.out) hb); replace HB := Aside0.mk (below_step bA hb); (try clear hb)) | ((with_reducible refine gate_callee (f := 8) rfl ?_); refine gL_ 69 Try.func8 #[] ?_; (with_reducible refine (vinculumlaw11_mapped.calls  true _ A22.out).mono ?_); rintro e w67 ⟨rfl, hb⟩; refine ⟨_, rfl, ?_⟩; replace HO242 := Aside0.mk (Kd.R_below (rA HO242.out) hb); replace HO246 := Aside0.mk (Kd.R_below (rA HO246.out) hb); replace HB := Aside0.mk (below_step bA hb); (try clear hb)))
             go_ret
             exact ⟨eA, bA⟩
          ·
           rw [if_neg c28] at H
           have c28b0 : (t248 == 0) = false := beq_eq_false_iff_ne.mpr c28
           have c28b1 : (t248 != 0) = true := bne_iff_ne.mpr c28
           by_cases c68 : t248 = 10
           ·
            rw [if_pos c68] at H
            have c68b0 : (t248 == 10) = true := beq_iff_eq.mpr c68
            have c68b1 : (t248 != 10) = false := bne_eq_false_iff_eq.mpr c68
            clear c68
            obtain rfl := Option.some.inj H
            go_wp2_with (first | ((with_reducible refine gate_callee (f := 9) rfl ?_); refine gL_ 47 Try.func9 #[.string t234] ?_; (with_reducible refine (cmap_Get.calls t234 t239 t240 _ A18.out).mono ?_); rintro e w69 ⟨v241, rfl, ho0, hb⟩; refine ⟨_, rfl, ?_⟩; have HO242 := Aside0.mk (Kd.R_lower ho0 (below_size bA)); replace HB := Aside0.mk (below_step bA hb); (try clear hb ho0)) | ((with_reducible refine gate_callee (f := 9) rfl ?_); refine gL_ 52 Try.func9 #[.string t236] ?_; (with_reducible refine (cmap_Get.calls t236 t243 t244 _ A19.out).mono ?_); rintro e w70 ⟨v245, rfl, ho0, hb⟩; refine ⟨_, rfl, ?_⟩; have HO246 := Aside0.mk (Kd.R_lower (Kd.R_new' ho0 (Kd.R_lt (rA HO242.out))) (below_size bA)); replace HO242 := eL HO242 ho0 hb; replace HB := Aside0.mk (below_step bA hb); (try clear hb ho0); obtain ⟨Ao71, co71, eo71⟩ := Kd.R_slice HO242.out; subst eo71) | ((with_reducible refine gate_callee (f := 10) rfl ?_); refine gL_ 59 Try.func10 #[.slice Ao71 t239.length co71, .int .i64 a3, .int .i64 a4] ?_; (with_reducible refine (cmap_Glyph.calls _ _ t239 a3 a4 t247 t248 _ ?side1 ?side2 A20.out).mono ?_); (case side1 => exact cA (Kd.R_reads' HO242.out).2.2); (case side2 => exact (Kd.R_reads' HO242.out).2.1); rintro e w72 ⟨rfl, hb⟩; refine ⟨_, rfl, ?_⟩; replace HO242 := Aside0.mk (Kd.R_below (rA HO242.out) hb); replace HO246 := Aside0.mk (Kd.R_below (rA HO246.out) hb); replace HB := Aside0.mk (below_step bA hb); (try clear hb); obtain ⟨Ao73, co73, eo73⟩ := Kd.R_slice HO246.out; subst eo73) | ((with_reducible refine gate_callee (f := 10) rfl ?_); refine gL_ 66 Try.func10 #[.slice Ao73 t243.length co73, .int .i64 a3, .int .i64 a4] ?_; (with_reducible refine (cmap_Glyph.calls _ _ t243 a3 a4 t249 t250 _ ?side1 ?side2 A21.out).mono ?_); (case side1 => exact cA (Kd.R_reads' HO246.out).2.2); (case side2 => exact (Kd.R_reads' HO246.out).2.1); rintro e w74 ⟨rfl, hb⟩; refine ⟨_, rfl, ?_⟩; replace HO242 := Aside0.mk (Kd.R_below (rA HO242.out) hb); replace HO246 := Aside0.mk (Kd.R_below (rA HO246.out) hb); replace HB := Aside0.mk (below_step bA hb); (try clear hb)) | ((with_reducible refine gate_callee (f := 8) rfl ?_); refine gL_ 69 Try.func8 #[] ?_; (with_reducible refine (vinculumlaw11_mapped.calls  true _ A22.out).mono ?_); rintro e w75 ⟨rfl, hb⟩; refine ⟨_, rfl, ?_⟩; replace HO242 := Aside0.mk (Kd.R_below (rA HO242.out) hb); replace HO246 := Aside0.mk (Kd.R_below (rA HO246.out) hb); replace HB := Aside0.mk (below_step bA hb); (try clear hb)))
            go_ret
            exact ⟨eA, bA⟩
           ·
            rw [if_neg c68] at H
            have c68b0 : (t248 == 10) = false := beq_eq_false_iff_ne.mpr c68
            have c68b1 : (t248 != 10) = true := bne_iff_ne.mpr c68
            obtain rfl := Option.some.inj H
            go_wp2_with (first | ((with_reducible refine gate_callee (f := 9) rfl ?_); refine gL_ 47 Try.func9 #[.string t234] ?_; (with_reducible refine (cmap_Get.calls t234 t239 t240 _ A18.out).mono ?_); rintro e w76 ⟨v241, rfl, ho0, hb⟩; refine ⟨_, rfl, ?_⟩; have HO242 := Aside0.mk (Kd.R_lower ho0 (below_size bA)); replace HB := Aside0.mk (below_step bA hb); (try clear hb ho0)) | ((with_reducible refine gate_callee (f := 9) rfl ?_); refine gL_ 52 Try.func9 #[.string t236] ?_; (with_reducible refine (cmap_Get.calls t236 t243 t244 _ A19.out).mono ?_); rintro e w77 ⟨v245, rfl, ho0, hb⟩; refine ⟨_, rfl, ?_⟩; have HO246 := Aside0.mk (Kd.R_lower (Kd.R_new' ho0 (Kd.R_lt (rA HO242.out))) (below_size bA)); replace HO242 := eL HO242 ho0 hb; replace HB := Aside0.mk (below_step bA hb); (try clear hb ho0); obtain ⟨Ao78, co78, eo78⟩ := Kd.R_slice HO242.out; subst eo78) | ((with_reducible refine gate_callee (f := 10) rfl ?_); refine gL_ 59 Try.func10 #[.slice Ao78 t239.length co78, .int .i64 a3, .int .i64 a4] ?_; (with_reducible refine (cmap_Glyph.calls _ _ t239 a3 a4 t247 t248 _ ?side1 ?side2 A20.out).mono ?_); (case side1 => exact cA (Kd.R_reads' HO242.out).2.2); (case side2 => exact (Kd.R_reads' HO242.out).2.1); rintro e w79 ⟨rfl, hb⟩; refine ⟨_, rfl, ?_⟩; replace HO242 := Aside0.mk (Kd.R_below (rA HO242.out) hb); replace HO246 := Aside0.mk (Kd.R_below (rA HO246.out) hb); replace HB := Aside0.mk (below_step bA hb); (try clear hb); obtain ⟨Ao80, co80, eo80⟩ := Kd.R_slice HO246.out; subst eo80) | ((with_reducible refine gate_callee (f := 10) rfl ?_); refine gL_ 66 Try.func10 #[.slice Ao80 t243.length co80, .int .i64 a3, .int .i64 a4] ?_; (with_reducible refine (cmap_Glyph.calls _ _ t243 a3 a4 t249 t250 _ ?side1 ?side2 A21.out).mono ?_); (case side1 => exact cA (Kd.R_reads' HO246.out).2.2); (case side2 => exact (Kd.R_reads' HO246.out).2.1); rintro e w81 ⟨rfl, hb⟩; refine ⟨_, rfl, ?_⟩; replace HO242 := Aside0.mk (Kd.R_below (rA HO242.out) hb); replace HO246 := Aside0.mk (Kd.R_below (rA HO246.out) hb); replace HB := Aside0.mk (below_step bA hb); (try clear hb)) | ((with_reducible refine gate_callee (f := 8) rfl ?_); refine gL_ 69 Try.func8 #[] ?_; (with_reducible refine (vinculumlaw11_mapped.calls  true _ A22.out).mono ?_); rintro e w82 ⟨rfl, hb⟩; refine ⟨_, rfl, ?_⟩; replace HO242 := Aside0.mk (Kd.R_below (rA HO242.out) hb); replace HO246 := Aside0.mk (Kd.R_below (rA HO246.out) hb); replace HB := Aside0.mk (below_step bA hb); (try clear hb)))
            go_ret
            exact ⟨eA, bA⟩
         ·
          rw [if_neg c27] at H
          have c27b0 : (t248 == t250) = false := beq_eq_false_iff_ne.mpr c27
          have c27b1 : (t248 != t250) = true := bne_iff_ne.mpr c27
          obtain rfl := Option.some.inj H
          go_wp2_with (first | ((with_reducible refine gate_callee (f := 9) rfl ?_); refine gL_ 47 Try.func9 #[.string t234] ?_; (with_reducible refine (cmap_Get.calls t234 t239 t240 _ A18.out).mono ?_); rintro e w83 ⟨v241, rfl, ho0, hb⟩; refine ⟨_, rfl, ?_⟩; have HO242 := Aside0.mk (Kd.R_lower ho0 (below_size bA)); replace HB := Aside0.mk (below_step bA hb); (try clear hb ho0)) | ((with_reducible refine gate_callee (f := 9) rfl ?_); refine gL_ 52 Try.func9 #[.string t236] ?_; (with_reducible refine (cmap_Get.calls t236 t243 t244 _ A19.out).mono ?_); rintro e w84 ⟨v245, rfl, ho0, hb⟩; refine ⟨_, rfl, ?_⟩; have HO246 := Aside0.mk (Kd.R_lower (Kd.R_new' ho0 (Kd.R_lt (rA HO242.out))) (below_size bA)); replace HO242 := eL HO242 ho0 hb; replace HB := Aside0.mk (below_step bA hb); (try clear hb ho0); obtain ⟨Ao85, co85, eo85⟩ := Kd.R_slice HO242.out; subst eo85) | ((with_reducible refine gate_callee (f := 10) rfl ?_); refine gL_ 59 Try.func10 #[.slice Ao85 t239.length co85, .int .i64 a3, .int .i64 a4] ?_; (with_reducible refine (cmap_Glyph.calls _ _ t239 a3 a4 t247 t248 _ ?side1 ?side2 A20.out).mono ?_); (case side1 => exact cA (Kd.R_reads' HO242.out).2.2); (case side2 => exact (Kd.R_reads' HO242.out).2.1); rintro e w86 ⟨rfl, hb⟩; refine ⟨_, rfl, ?_⟩; replace HO242 := Aside0.mk (Kd.R_below (rA HO242.out) hb); replace HO246 := Aside0.mk (Kd.R_below (rA HO246.out) hb); replace HB := Aside0.mk (below_step bA hb); (try clear hb); obtain ⟨Ao87, co87, eo87⟩ := Kd.R_slice HO246.out; subst eo87) | ((with_reducible refine gate_callee (f := 10) rfl ?_); refine gL_ 66 Try.func10 #[.slice Ao87 t243.length co87, .int .i64 a3, .int .i64 a4] ?_; (with_reducible refine (cmap_Glyph.calls _ _ t243 a3 a4 t249 t250 _ ?side1 ?side2 A21.out).mono ?_); (case side1 => exact cA (Kd.R_reads' HO246.out).2.2); (case side2 => exact (Kd.R_reads' HO246.out).2.1); rintro e w88 ⟨rfl, hb⟩; refine ⟨_, rfl, ?_⟩; replace HO242 := Aside0.mk (Kd.R_below (rA HO242.out) hb); replace HO246 := Aside0.mk (Kd.R_below (rA HO246.out) hb); replace HB := Aside0.mk (below_step bA hb); (try clear hb)) | ((with_reducible refine gate_callee (f := 8) rfl ?_); refine gL_ 69 Try.func8 #[] ?_; (with_reducible refine (vinculumlaw11_mapped.calls  true _ A22.out).mono ?_); rintro e w89 ⟨rfl, hb⟩; refine ⟨_, rfl, ?_⟩; replace HO242 := Aside0.mk (Kd.R_below (rA HO242.out) hb); replace HO246 := Aside0.mk (Kd.R_below (rA HO246.out) hb); replace HB := Aside0.mk (below_step bA hb); (try clear hb)))
          go_ret
          exact ⟨eA, bA⟩
        ·
         rw [if_neg c26] at H
         have c26b0 : (t247 == t249) = false := beq_eq_false_iff_ne.mpr c26
         have c26b1 : (t247 != t249) = true := bne_iff_ne.mpr c26
         obtain rfl := Option.some.inj H
         go_wp2_with (first | ((with_reducible refine gate_callee (f := 9) rfl ?_); refine gL_ 47 Try.func9 #[.string t234] ?_; (with_reducible refine (cmap_Get.calls t234 t239 t240 _ A18.out).mono ?_); rintro e w90 ⟨v241, rfl, ho0, hb⟩; refine ⟨_, rfl, ?_⟩; have HO242 := Aside0.mk (Kd.R_lower ho0 (below_size bA)); replace HB := Aside0.mk (below_step bA hb); (try clear hb ho0)) | ((with_reducible refine gate_callee (f := 9) rfl ?_); refine gL_ 52 Try.func9 #[.string t236] ?_; (with_reducible refine (cmap_Get.calls t236 t243 t244 _ A19.out).mono ?_); rintro e w91 ⟨v245, rfl, ho0, hb⟩; refine ⟨_, rfl, ?_⟩; have HO246 := Aside0.mk (Kd.R_lower (Kd.R_new' ho0 (Kd.R_lt (rA HO242.out))) (below_size bA)); replace HO242 := eL HO242 ho0 hb; replace HB := Aside0.mk (below_step bA hb); (try clear hb ho0); obtain ⟨Ao92, co92, eo92⟩ := Kd.R_slice HO242.out; subst eo92) | ((with_reducible refine gate_callee (f := 10) rfl ?_); refine gL_ 59 Try.func10 #[.slice Ao92 t239.length co92, .int .i64 a3, .int .i64 a4] ?_; (with_reducible refine (cmap_Glyph.calls _ _ t239 a3 a4 t247 t248 _ ?side1 ?side2 A20.out).mono ?_); (case side1 => exact cA (Kd.R_reads' HO242.out).2.2); (case side2 => exact (Kd.R_reads' HO242.out).2.1); rintro e w93 ⟨rfl, hb⟩; refine ⟨_, rfl, ?_⟩; replace HO242 := Aside0.mk (Kd.R_below (rA HO242.out) hb); replace HO246 := Aside0.mk (Kd.R_below (rA HO246.out) hb); replace HB := Aside0.mk (below_step bA hb); (try clear hb); obtain ⟨Ao94, co94, eo94⟩ := Kd.R_slice HO246.out; subst eo94) | ((with_reducible refine gate_callee (f := 10) rfl ?_); refine gL_ 66 Try.func10 #[.slice Ao94 t243.length co94, .int .i64 a3, .int .i64 a4] ?_; (with_reducible refine (cmap_Glyph.calls _ _ t243 a3 a4 t249 t250 _ ?side1 ?side2 A21.out).mono ?_); (case side1 => exact cA (Kd.R_reads' HO246.out).2.2); (case side2 => exact (Kd.R_reads' HO246.out).2.1); rintro e w95 ⟨rfl, hb⟩; refine ⟨_, rfl, ?_⟩; replace HO242 := Aside0.mk (Kd.R_below (rA HO242.out) hb); replace HO246 := Aside0.mk (Kd.R_below (rA HO246.out) hb); replace HB := Aside0.mk (below_step bA hb); (try clear hb)) | ((with_reducible refine gate_callee (f := 8) rfl ?_); refine gL_ 69 Try.func8 #[] ?_; (with_reducible refine (vinculumlaw11_mapped.calls  true _ A22.out).mono ?_); rintro e w96 ⟨rfl, hb⟩; refine ⟨_, rfl, ?_⟩; replace HO242 := Aside0.mk (Kd.R_below (rA HO242.out) hb); replace HO246 := Aside0.mk (Kd.R_below (rA HO246.out) hb); replace HB := Aside0.mk (below_step bA hb); (try clear hb)))
         go_ret
         exact ⟨eA, bA⟩
       ·
        rw [if_neg c25] at H
        have c25b0 : (t244 == 0) = false := beq_eq_false_iff_ne.mpr c25
        have c25b1 : (t244 != 0) = true := bne_iff_ne.mpr c25
        obtain rfl := Option.some.inj H
        go_wp2_with (first | ((with_reducible refine gate_callee (f := 9) rfl ?_); refine gL_ 47 Try.func9 #[.string t234] ?_; (with_reducible refine (cmap_Get.calls t234 t239 t240 _ A18.out).mono ?_); rintro e w97 ⟨v241, rfl, ho0, hb⟩; refine ⟨_, rfl, ?_⟩; have HO242 := Aside0.mk (Kd.R_lower ho0 (below_size bA)); replace HB := Aside0.mk (below_step bA hb); (try clear hb ho0)) | ((with_reducible refine gate_callee (f := 9) rfl ?_); refine gL_ 52 Try.func9 #[.string t236] ?_; (with_reducible refine (cmap_Get.calls t236 t243 t244 _ A19.out).mono ?_); rintro e w98 ⟨v245, rfl, ho0, hb⟩; refine ⟨_, rfl, ?_⟩; have HO246 := Aside0.mk (Kd.R_lower (Kd.R_new' ho0 (Kd.R_lt (rA HO242.out))) (below_size bA)); replace HO242 := eL HO242 ho0 hb; replace HB := Aside0.mk (below_step bA hb); (try clear hb ho0); obtain ⟨Ao99, co99, eo99⟩ := Kd.R_slice HO242.out; subst eo99) | ((with_reducible refine gate_callee (f := 10) rfl ?_); refine gL_ 59 Try.func10 #[.slice Ao99 t239.length co99, .int .i64 a3, .int .i64 a4] ?_; (with_reducible refine (cmap_Glyph.calls _ _ t239 a3 a4 t247 t248 _ ?side1 ?side2 A20.out).mono ?_); (case side1 => exact cA (Kd.R_reads' HO242.out).2.2); (case side2 => exact (Kd.R_reads' HO242.out).2.1); rintro e w100 ⟨rfl, hb⟩; refine ⟨_, rfl, ?_⟩; replace HO242 := Aside0.mk (Kd.R_below (rA HO242.out) hb); replace HO246 := Aside0.mk (Kd.R_below (rA HO246.out) hb); replace HB := Aside0.mk (below_step bA hb); (try clear hb); obtain ⟨Ao101, co101, eo101⟩ := Kd.R_slice HO246.out; subst eo101) | ((with_reducible refine gate_callee (f := 10) rfl ?_); refine gL_ 66 Try.func10 #[.slice Ao101 t243.length co101, .int .i64 a3, .int .i64 a4] ?_; (with_reducible refine (cmap_Glyph.calls _ _ t243 a3 a4 t249 t250 _ ?side1 ?side2 A21.out).mono ?_); (case side1 => exact cA (Kd.R_reads' HO246.out).2.2); (case side2 => exact (Kd.R_reads' HO246.out).2.1); rintro e w102 ⟨rfl, hb⟩; refine ⟨_, rfl, ?_⟩; replace HO242 := Aside0.mk (Kd.R_below (rA HO242.out) hb); replace HO246 := Aside0.mk (Kd.R_below (rA HO246.out) hb); replace HB := Aside0.mk (below_step bA hb); (try clear hb)) | ((with_reducible refine gate_callee (f := 8) rfl ?_); refine gL_ 69 Try.func8 #[] ?_; (with_reducible refine (vinculumlaw11_mapped.calls  true _ A22.out).mono ?_); rintro e w103 ⟨rfl, hb⟩; refine ⟨_, rfl, ?_⟩; replace HO242 := Aside0.mk (Kd.R_below (rA HO242.out) hb); replace HO246 := Aside0.mk (Kd.R_below (rA HO246.out) hb); replace HB := Aside0.mk (below_step bA hb); (try clear hb)))
        go_ret
        exact ⟨eA, bA⟩
      ·
       rw [if_neg c24] at H
       have c24b0 : (t240 == 0) = false := beq_eq_false_iff_ne.mpr c24
       have c24b1 : (t240 != 0) = true := bne_iff_ne.mpr c24
       obtain rfl := Option.some.inj H
       go_wp2_with (first | ((with_reducible refine gate_callee (f := 9) rfl ?_); refine gL_ 47 Try.func9 #[.string t234] ?_; (with_reducible refine (cmap_Get.calls t234 t239 t240 _ A18.out).mono ?_); rintro e w104 ⟨v241, rfl, ho0, hb⟩; refine ⟨_, rfl, ?_⟩; have HO242 := Aside0.mk (Kd.R_lower ho0 (below_size bA)); replace HB := Aside0.mk (below_step bA hb); (try clear hb ho0)) | ((with_reducible refine gate_callee (f := 9) rfl ?_); refine gL_ 52 Try.func9 #[.string t236] ?_; (with_reducible refine (cmap_Get.calls t236 t243 t244 _ A19.out).mono ?_); rintro e w105 ⟨v245, rfl, ho0, hb⟩; refine ⟨_, rfl, ?_⟩; have HO246 := Aside0.mk (Kd.R_lower (Kd.R_new' ho0 (Kd.R_lt (rA HO242.out))) (below_size bA)); replace HO242 := eL HO242 ho0 hb; replace HB := Aside0.mk (below_step bA hb); (try clear hb ho0); obtain ⟨Ao106, co106, eo106⟩ := Kd.R_slice HO242.out; subst eo106) | ((with_reducible refine gate_callee (f := 10) rfl ?_); refine gL_ 59 Try.func10 #[.slice Ao106 t239.length co106, .int .i64 a3, .int .i64 a4] ?_; (with_reducible refine (cmap_Glyph.calls _ _ t239 a3 a4 t247 t248 _ ?side1 ?side2 A20.out).mono ?_); (case side1 => exact cA (Kd.R_reads' HO242.out).2.2); (case side2 => exact (Kd.R_reads' HO242.out).2.1); rintro e w107 ⟨rfl, hb⟩; refine ⟨_, rfl, ?_⟩; replace HO242 := Aside0.mk (Kd.R_below (rA HO242.out) hb); replace HO246 := Aside0.mk (Kd.R_below (rA HO246.out) hb); replace HB := Aside0.mk (below_step bA hb); (try clear hb); obtain ⟨Ao108, co108, eo108⟩ := Kd.R_slice HO246.out; subst eo108) | ((with_reducible refine gate_callee (f := 10) rfl ?_); refine gL_ 66 Try.func10 #[.slice Ao108 t243.length co108, .int .i64 a3, .int .i64 a4] ?_; (with_reducible refine (cmap_Glyph.calls _ _ t243 a3 a4 t249 t250 _ ?side1 ?side2 A21.out).mono ?_); (case side1 => exact cA (Kd.R_reads' HO246.out).2.2); (case side2 => exact (Kd.R_reads' HO246.out).2.1); rintro e w109 ⟨rfl, hb⟩; refine ⟨_, rfl, ?_⟩; replace HO242 := Aside0.mk (Kd.R_below (rA HO242.out) hb); replace HO246 := Aside0.mk (Kd.R_below (rA HO246.out) hb); replace HB := Aside0.mk (below_step bA hb); (try clear hb)) | ((with_reducible refine gate_callee (f := 8) rfl ?_); refine gL_ 69 Try.func8 #[] ?_; (with_reducible refine (vinculumlaw11_mapped.calls  true _ A22.out).mono ?_); rintro e w110 ⟨rfl, hb⟩; refine ⟨_, rfl, ?_⟩; replace HO242 := Aside0.mk (Kd.R_below (rA HO242.out) hb); replace HO246 := Aside0.mk (Kd.R_below (rA HO246.out) hb); replace HB := Aside0.mk (below_step bA hb); (try clear hb)))
       go_ret
       exact ⟨eA, bA⟩
     ·
      replace c23 := Bool.eq_false_iff.mpr c23
      subst c23
      rw [if_neg Bool.false_ne_true] at H
      obtain rfl := Option.some.inj H
      go_wp2_with (first | ((with_reducible refine gate_callee (f := 9) rfl ?_); refine gL_ 47 Try.func9 #[.string t234] ?_; (with_reducible refine (cmap_Get.calls t234 t239 t240 _ A18.out).mono ?_); rintro e w111 ⟨v241, rfl, ho0, hb⟩; refine ⟨_, rfl, ?_⟩; have HO242 := Aside0.mk (Kd.R_lower ho0 (below_size bA)); replace HB := Aside0.mk (below_step bA hb); (try clear hb ho0)) | ((with_reducible refine gate_callee (f := 9) rfl ?_); refine gL_ 52 Try.func9 #[.string t236] ?_; (with_reducible refine (cmap_Get.calls t236 t243 t244 _ A19.out).mono ?_); rintro e w112 ⟨v245, rfl, ho0, hb⟩; refine ⟨_, rfl, ?_⟩; have HO246 := Aside0.mk (Kd.R_lower (Kd.R_new' ho0 (Kd.R_lt (rA HO242.out))) (below_size bA)); replace HO242 := eL HO242 ho0 hb; replace HB := Aside0.mk (below_step bA hb); (try clear hb ho0); obtain ⟨Ao113, co113, eo113⟩ := Kd.R_slice HO242.out; subst eo113) | ((with_reducible refine gate_callee (f := 10) rfl ?_); refine gL_ 59 Try.func10 #[.slice Ao113 t239.length co113, .int .i64 a3, .int .i64 a4] ?_; (with_reducible refine (cmap_Glyph.calls _ _ t239 a3 a4 t247 t248 _ ?side1 ?side2 A20.out).mono ?_); (case side1 => exact cA (Kd.R_reads' HO242.out).2.2); (case side2 => exact (Kd.R_reads' HO242.out).2.1); rintro e w114 ⟨rfl, hb⟩; refine ⟨_, rfl, ?_⟩; replace HO242 := Aside0.mk (Kd.R_below (rA HO242.out) hb); replace HO246 := Aside0.mk (Kd.R_below (rA HO246.out) hb); replace HB := Aside0.mk (below_step bA hb); (try clear hb); obtain ⟨Ao115, co115, eo115⟩ := Kd.R_slice HO246.out; subst eo115) | ((with_reducible refine gate_callee (f := 10) rfl ?_); refine gL_ 66 Try.func10 #[.slice Ao115 t243.length co115, .int .i64 a3, .int .i64 a4] ?_; (with_reducible refine (cmap_Glyph.calls _ _ t243 a3 a4 t249 t250 _ ?side1 ?side2 A21.out).mono ?_); (case side1 => exact cA (Kd.R_reads' HO246.out).2.2); (case side2 => exact (Kd.R_reads' HO246.out).2.1); rintro e w116 ⟨rfl, hb⟩; refine ⟨_, rfl, ?_⟩; replace HO242 := Aside0.mk (Kd.R_below (rA HO242.out) hb); replace HO246 := Aside0.mk (Kd.R_below (rA HO246.out) hb); replace HB := Aside0.mk (below_step bA hb); (try clear hb)) | ((with_reducible refine gate_callee (f := 8) rfl ?_); refine gL_ 69 Try.func8 #[] ?_; (with_reducible refine (vinculumlaw11_mapped.calls  false _ A22.out).mono ?_); rintro e w117 ⟨rfl, hb⟩; refine ⟨_, rfl, ?_⟩; replace HO242 := Aside0.mk (Kd.R_below (rA HO242.out) hb); replace HO246 := Aside0.mk (Kd.R_below (rA HO246.out) hb); replace HB := Aside0.mk (below_step bA hb); (try clear hb)))
      go_ret
      exact ⟨eA, bA⟩
 ·
  replace c7 := Bool.eq_false_iff.mpr c7
  subst c7
  rw [if_neg Bool.false_ne_true] at H
  obtain rfl := Option.some.inj H
  go_enter Try.func3, Try.ntmps3
  go_wp2_with (first | ((with_reducible refine gate_callee (f := 6) rfl ?_); refine gL_ 24 Try.func6 #[.slice A0 l0.length c0] ?_; (with_reducible refine (vinculumref11_Short.calls k _ _ l0 false _ ?side1 ?side2 A6.out).mono ?_); (case side1 => exact cA HR0.out); (case side2 => exact HC0.out); rintro e w118 ⟨rfl, hb⟩; refine ⟨_, rfl, ?_⟩; have n0_ := Aside0.mk (below_step bA hb); clear HB; have HB := n0_; clear n0_; (try clear hb)))
  go_ret
  exact ⟨eA, bA⟩
end Go.Proofs.Ytejdflndgnpkcaa.P
end
section
namespace Go.Proofs.Ytejdflndgnpkcaa.Pure
open Go.RowKit Go.Proofs.Ytejdflndgnpkcaa.P Go.Proofs.YtejdflndgnpkcaaW.PrintWords Go.Proofs.YtejdflndgnpkcaaW.PrintLast
theorem cforms_told (l : List S50) (a b c g : Int) (K : Nat) (hK : 300000 ≤ K) : vinculumlaw11_CmapFormats.f (K + 1) l a b c g = some true := by
 have hM : vinculumlaw11_mapped.f = some true := rfl
 obtain ⟨sb, hb, _⟩ := short11_told l (K + 1) (by omega)
 unfold vinculumlaw11_CmapFormats.f
 rw [hb, Option.bind_some]
 cases sb with
 | false => rw [if_neg Bool.false_ne_true]
 | true =>
  have hP : ∀ n, cmap_Put.f l n = some (putM l n) := fun n => rfl
  rw [if_pos rfl, hP a, Option.bind_some, hP b, Option.bind_some]
  by_cases h0 : (putM l a).2 = 0
  case neg =>
   rw [if_neg h0]
   simp only [vinculumlaw11_CmapFormats.j0]
   rw [if_pos trivial, hM, Option.bind_some]
  rw [if_pos h0]
  by_cases h1 : (putM l b).2 = 0
  case neg =>
   rw [bne_iff_ne.2 h1]
   simp only [vinculumlaw11_CmapFormats.j0]
   rw [if_pos trivial, hM, Option.bind_some]
  rw [bne_eq_false_iff_eq.2 h1]
  obtain ⟨M, _, _, hB, _, hg, _⟩ := put_back h0
  obtain ⟨M', _, _, hB', _, hg', _⟩ := put_back h1
  have hG : cmap_Get.f (putM l a).1 = some (M, 0) := by
   show some (getM (putM l a).1) = _
   rw [hg]
  have hG' : cmap_Get.f (putM l b).1 = some (M', 0) := by
   show some (getM (putM l b).1) = _
   rw [hg']
  have e1 : glyM M c g = if lookN l c = 0 then (0, 10) else if g ≤ lookN l c then (0, 10) else (lookN l c, 0) := by
   unfold glyM
   rw [hB.j, if_neg (show ¬ true = false by decide), hB.k c]
  have e2 : glyM M' c g = if lookN l c = 0 then (0, 10) else if g ≤ lookN l c then (0, 10) else (lookN l c, 0) := by
   unfold glyM
   rw [hB'.j, if_neg (show ¬ true = false by decide), hB'.k c]
  have hbd := (look_bd hB.i c).1
  simp only [vinculumlaw11_CmapFormats.j0]
  rw [if_neg Bool.false_ne_true, hG, Option.bind_some, hG', Option.bind_some, glyph_told, Option.bind_some, glyph_told, Option.bind_some, hM, Option.bind_some, if_pos rfl, if_pos rfl, if_pos rfl, e1, e2, if_pos rfl, if_pos rfl]
  by_cases c0 : lookN l c = 0
  ·
   rw [if_pos c0]
   rfl
  ·
   rw [if_neg c0]
   by_cases c1 : g ≤ lookN l c
   ·
    rw [if_pos c1]
    rfl
   ·
    rw [if_neg c1]
    show (if (0 : Int) = 0 then (if lookN l c > 0 then (if lookN l c < g then some true else _) else _) else _) = some true
    rw [if_pos rfl, if_pos (by omega), if_pos (by omega)]
end Go.Proofs.Ytejdflndgnpkcaa.Pure
end
