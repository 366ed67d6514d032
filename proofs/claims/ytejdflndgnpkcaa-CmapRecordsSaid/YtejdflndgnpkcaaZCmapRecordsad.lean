/- Words, contracts and plain facts of the proof. Each says its own condition. -/
import Derived.Test.YtejdflndgnpkcaaZCmapRecordsac
import Derived.Laws.ResultCell
import Derived.Test.YtejdflndgnpkcaaZCmapRecordse
import Derived.Test.YtejdflndgnpkcaaZCmapRecordsq
import Derived.Test.YtejdflndgnpkcaaZCmapRecordsp
import Derived.Test.YtejdflndgnpkcaaZCmapRecordsk
import Derived.Test.YtejdflndgnpkcaaZCmapRecordss
import Derived.Test.YtejdflndgnpkcaaZCmapRecordsu
import Derived.Test.YtejdflndgnpkcaaZCmapRecordsr
import Derived.Test.YtejdflndgnpkcaaZCmapRecordsw
set_option linter.unusedVariables false
set_option linter.unusedSimpArgs false
section
namespace Go.Proofs.Ytejdflndgnpkcaa.P
open Go.RowKit Go.Proofs.YtejdflndgnpkcaaW.PrintWords Go.Proofs.YtejdflndgnpkcaaW.PrintLast Go.Proofs.YtejdflndgnpkcaaW.PrintMore
theorem results_cell_tmp_row {fn : Func} {p u : Tmp} {ty : TypeId} (h : fn.results = #[.cell p ty, .tmp u]) (tmps : Array Value) (w : World) (g : Nat) (v : Value)
  (hl : (loadVar ty ⟨g, 0, none⟩).run Try.prog w = .ok v w) (hp : tmps.getD p undef = .pointer (some ⟨g, 0, none⟩)) :
  (results fn tmps).run Try.prog w = .ok (.tuple #[v, tmps.getD u undef]) w := by
 have hp' : tmps[p]?.getD undef = .pointer (some ⟨g, 0, none⟩) := by simpa using hp
 rw [results_cell_tmp h]
 simp [hp', asAddr, hl, Result.andThen]
def pickS (o : S41 × Bool) (x : S41) : S41 × Bool := if o.2 = false ∨ o.1.f0 < x.f0 then (x, true) else o
def bestS (l : List S41) : S41 × Bool := l.foldl pickS (⟨0, 0⟩, false)
def atK (l : List S41) (i : Nat) : S41 := l.getD i ⟨0, 0⟩
theorem bestS_succ (l : List S41) (i : Nat) (h : i < l.length) : bestS (l.take (i + 1)) = pickS (bestS (l.take i)) (atK l i) := by
 unfold bestS atK
 rw [List.take_add_one, List.getElem?_eq_getElem h, List.foldl_append]
 simp [List.getD_eq_getElem?_getD, List.getElem?_eq_getElem h]
theorem rd_atK (l : List S41) (i : Nat) : rd_T41 l (i : Int) = atK l i := rfl
theorem keep4 {W U : World} (hb : Below W.heap.size W U) {p q : Nat} {v0 v1 v2 v3 : Value} (h0 : W.cell? ⟨p, 0, none⟩ = some v0) (h1 : W.cell? ⟨p, 1, none⟩ = some v1) (h2 : W.cell? ⟨q, 0, none⟩ = some v2) (h3 : W.cell? ⟨q, 1, none⟩ = some v3) :
  U.cell? ⟨p, 0, none⟩ = some v0 ∧ U.cell? ⟨p, 1, none⟩ = some v1 ∧ U.cell? ⟨q, 0, none⟩ = some v2 ∧ U.cell? ⟨q, 1, none⟩ = some v3 :=
 ⟨(hb.cell (World.block_lt_of_cell? _ _ h0)).trans h0, (hb.cell (World.block_lt_of_cell? _ _ h1)).trans h1, (hb.cell (World.block_lt_of_cell? _ _ h2)).trans h2, (hb.cell (World.block_lt_of_cell? _ _ h3)).trans h3⟩
structure PickW (w W : World) (a b : Int) : Prop where
 h : Below w.heap.size w W
 r : W.heap[w.heap.size]? = some (.cells #[.int .i64 0, .int .i64 0] 59 (0, 0))
 c : W.heap[w.heap.size + 1]? = some (.cells #[.int .i64 a, .int .i64 b] 59 (0, 0))
theorem PickW.below {w W U : World} {a b : Int} (h : PickW w W a b) (hb : Below W.heap.size W U) : PickW w U a b :=
 ⟨below_then h.h h.h.size hb, (hb.block _ (blk_lt h.r)).trans h.r, (hb.block _ (blk_lt h.c)).trans h.c⟩
set_option maxRecDepth 100000 in
set_option maxHeartbeats 4000000 in
theorem pick_walk (A0 : Option Addr) (c0 : Nat) (l : List S41) (w : World) (hr0 : Kd.C k41 w A0 l.length l) (hc0 : l.length ≤ c0) (hl : l.length ≤ 100000) :
    Calls Try.prog 25 #[.slice A0 l.length c0, .func (.func 26) #[] #[]] w fun e w' => e = .returned (.tuple #[.agg #[.int .i64 (bestS l).1.f0, .int .i64 (bestS l).1.f1], .bool (bestS l).2]) ∧ Below w.heap.size w w' := by
  have hz := (zero_of_info (P := Try.prog) (t := 59) (v := .agg #[.int .i64 0, .int .i64 0]) (n := 2) (by kernel_rfl)).1
  have hu := Try.underlying59
  have he : EntersK 26 := entersK_of Try.func26 (by kernel_rfl) (by kernel_rfl)
  unfold EntersK at he
  have HC := Lib.hid hr0
  obtain ⟨n, hn⟩ : ∃ n, n = l.length := ⟨_, rfl⟩
  have HN := Lib.hid hn
  have HN2 := Lib.hid (show n ≤ 100000 by rw [hn]; exact hl)
  rw [← hn]
  clear hr0 hc0 hl hn
  go_enter Try.func25, Try.ntmps25
  go_wp2_with fail
  have HP0 := Lib.hid (show PickW w ((w.alloc (.cells #[.int .i64 0, .int .i64 0] 59)).alloc (.cells #[.int .i64 0, .int .i64 0] 59)) 0 0 from ⟨((Below.refl _ _).alloc (Nat.le_refl _) _).alloc (by simp) _, heap_alloc2_old _ _ _, heap_alloc2_new _ _ _⟩)
  go_loopw [12, 7] (fun v12 v7 wr => ∃ (i : Nat) (a b : Int) (is : Bool), i ≤ n ∧ bestS (l.take i) = (⟨a, b⟩, is) ∧ v12 = .int .i64 (i : Int) ∧ v7 = .bool is ∧ Aside0 (PickW w wr a b)) (fun v12 _ _ => n - (intOf v12).toNat)
  case atStart => exact ⟨0, 0, 0, false, Nat.zero_le _, rfl, rfl, rfl, ⟨HP0.out⟩⟩
  case round =>
    obtain ⟨i, a, b, is, hi, hbest, rfl, rfl, HW⟩ := hrel
    by_cases hlt : i < n
    · have p0 : (0 : Int) ≤ (i : Int) := by omega
      have p1 : (i : Int) < (n : Int) := by omega
      have d3 : decide ((i : Int) < (n : Int)) = true := decide_eq_true p1
      have hwi : wrap64 ((i : Int) + 1) = ((i + 1 : Nat) : Int) := by have := HN2.out; unfold wrap64; omega
      have hil : i < l.length := by rw [← HN.out]; exact hlt
      obtain ⟨ad, rfl, x0, x1⟩ := at_T41 HC.out (i : Int) p0 (by have := HN.out; omega)
      rw [rd_atK] at x0 x1
      have hsu := bestS_succ l i hil
      rw [hbest] at hsu
      obtain ⟨x, hx⟩ : ∃ x, x = atK l i := ⟨_, rfl⟩
      rw [← hx] at x0 x1 hsu
      rw [Int.toNat_natCast] at x0 x1
      replace x0 := (HW.out.h.cell (World.block_lt_of_cell? _ _ x0)).trans x0
      replace x1 := (HW.out.h.cell (World.block_lt_of_cell? _ _ x1)).trans x1
      have HSU := Lib.hid hsu
      have HLT := Lib.hid hlt
      clear hx hsu hil hlt hi hbest
      replace p0 := eq_true p0
      replace p1 := eq_true p1
      go_wp2_with fail
      obtain ⟨U, hU⟩ : ∃ U, U = wr.alloc (.cells #[.int .i64 x.f0, .int .i64 x.f1] 59) := ⟨_, rfl⟩
      obtain ⟨F, hF⟩ : ∃ F, F = wr.heap.size := ⟨_, rfl⟩
      obtain ⟨B, hB⟩ : ∃ B, B = w.heap.size + 1 := ⟨_, rfl⟩
      have hf : U.heap[F]? = some (.cells #[.int .i64 x.f0, .int .i64 x.f1] 59 (0, 0)) := by rw [hU, hF]; exact heap_alloc_new _ _
      have hp : PickW w U a b := by rw [hU]; exact HW.out.below ((Below.refl _ _).alloc (Nat.le_refl _) _)
      have z0 : U.cell? ⟨F, 0, none⟩ = some (.int .i64 x.f0) := (blk_cell hf 0).trans rfl
      have z1 : U.cell? ⟨F, 1, none⟩ = some (.int .i64 x.f1) := (blk_cell hf 1).trans rfl
      have y0 : U.cell? ⟨B, 0, none⟩ = some (.int .i64 a) := by rw [hB]; exact (blk_cell hp.c 0).trans rfl
      have y1 : U.cell? ⟨B, 1, none⟩ = some (.int .i64 b) := by rw [hB]; exact (blk_cell hp.c 1).trans rfl
      have HP := Lib.hid hp
      have HF := Lib.hid hf
      have HBB := Lib.hid hB
      rw [← hU, ← hF, ← hB]
      clear hU hF hB hf hp x0 x1 HW
      cases is with
      | false =>
        refine wp_mono (Q := Exit.then ?_ (fun _ _ _ => False)) ?_ ?_
        rotate_left 2
        · intro e a w h
          cases e with
          | normal => exact h
          | _ => exact (show False from h).elim
        refine start_ (n := 11) (S := fun u => u.cell? ⟨F, 0, none⟩ = some (.int .i64 x.f0) ∧ u.cell? ⟨F, 1, none⟩ = some (.int .i64 x.f1) ∧ u.cell? ⟨B, 0, none⟩ = some (.int .i64 a) ∧ u.cell? ⟨B, 1, none⟩ = some (.int .i64 b)) (ds := []) #[false, false, false, false, false, false, false, false, false, false, false] (by kernel_rfl) rfl rfl ⟨z0, z1, y0, y1⟩ (fun hHeld => ?_)
        refine pS_ 0 16 ?_
        refine pS_ 1 17 ?_
        refine pS_ 2 18 ?_
        refine pure_ (i := 3) (N := some 19) (v := undef) (a' := ?_) #[true, true, true, true, false, false, false, false, false, false, false] rfl rfl (by kernel_rfl) (fun _ _ _ h => h) (Or.inr ⟨by rfl, rfl⟩) ?_ ?_
        rotate_left
        · simp only [Act.put, List.setIfInBounds_toArray, List.set_cons_zero, List.set_cons_succ]
          rfl
        refine pure_ (i := 4) (N := some 20) (v := undef) (a' := ?_) #[true, true, true, true, true, false, false, false, false, false, false] rfl rfl (by kernel_rfl) (fun _ _ _ h => h) (Or.inr ⟨by rfl, rfl⟩) ?_ ?_
        rotate_left
        · simp only [Act.put, List.setIfInBounds_toArray, List.set_cons_zero, List.set_cons_succ]
          rfl
        refine pure_ (i := 6) (N := some 22) (v := undef) (a' := ?_) #[true, true, true, true, true, false, true, false, false, false, false] rfl rfl (by kernel_rfl) (fun _ _ _ h => h) (Or.inr ⟨by rfl, rfl⟩) ?_ ?_
        rotate_left
        · simp only [Act.put, List.setIfInBounds_toArray, List.set_cons_zero, List.set_cons_succ]
          rfl
        refine pure_ (i := 7) (N := some 23) (v := undef) (a' := ?_) #[true, true, true, true, true, false, true, true, false, false, false] rfl rfl (by kernel_rfl) (fun _ _ _ h => h) (Or.inr ⟨by rfl, rfl⟩) ?_ ?_
        rotate_left
        · simp only [Act.put, List.setIfInBounds_toArray, List.set_cons_zero, List.set_cons_succ]
          rfl
        refine oS_ 5 21 (fun K hK => ?_)
        refine off_ (by rfl) ?_
        refine hK.out _ _ hHeld (fun hHeld => ?_)
        clear hK K
        refine nS_ ?_
        refine oS_ 8 24 (fun K hK => ?_)
        refine off_ (by rfl) ?_
        refine hK.out _ _ hHeld (fun hHeld => ?_)
        clear hK K
        refine nS_ ?_
        refine pure_ (i := 9) (N := some 25) (v := undef) (a' := ?_) #[true, true, true, true, true, true, true, true, true, true, false] rfl rfl (by kernel_rfl) (fun _ _ _ h => h) (Or.inr ⟨by rfl, rfl⟩) ?_ ?_
        rotate_left
        · simp only [Act.put, List.setIfInBounds_toArray, List.set_cons_zero, List.set_cons_succ]
          rfl
        refine pS_ 10 26 ?_
        refine dS_ ?_
        obtain ⟨V, hV⟩ : ∃ V, V = U.drew := ⟨_, rfl⟩
        have HV := Lib.hid (show Below U.heap.size U V by rw [hV]; exact below_drew1 (Below.refl _ _))
        rw [← hV] at hHeld ⊢
        clear hV z0 z1 y0 y1
        have hpv : PickW w V a b := HP.out.below HV.out
        have hfv : V.heap[F]? = some (.cells #[.int .i64 x.f0, .int .i64 x.f1] 59 (0, 0)) := (HV.out.block F (blk_lt HF.out)).trans HF.out
        have hbv : V.heap[B]? = some (.cells #[.int .i64 a, .int .i64 b] 59 (0, 0)) := by rw [HBB.out]; exact hpv.c
        have f0 := Lib.frozen_of_heap hbv 0
        have f1 := Lib.frozen_of_heap hbv 1
        obtain ⟨t0, t1, t2, t3⟩ := hHeld
        have HQ := Lib.hid (show PickW w ((V.setCell ⟨B, 0, none⟩ (.int .i64 x.f0)).setCell ⟨B, 1, none⟩ (.int .i64 x.f1)) x.f0 x.f1 from
          ⟨(hpv.h.setCell (by rw [HBB.out]; exact Nat.le_succ _) _).setCell (by rw [HBB.out]; exact Nat.le_succ _) _,
           ((Below.heap_setCell _ _ _ _ (by rw [HBB.out]; exact Nat.ne_of_lt (Nat.lt_succ_self _))).trans (Below.heap_setCell _ _ _ _ (by rw [HBB.out]; exact Nat.ne_of_lt (Nat.lt_succ_self _)))).trans hpv.r,
           by
            have := blk_set (blk_set hbv 0 (.int .i64 x.f0)) 1 (.int .i64 x.f1)
            rw [← HBB.out]
            simpa using this⟩)
        clear hpv hfv hbv HV
        go_wp2
        have hBq := HBB.out
        subst hBq
        go_roundw
        case rel => exact ⟨i + 1, x.f0, x.f1, true, HLT.out, by rw [HSU.out]; unfold pickS; rw [if_pos (.inl rfl)], by rw [hwi], rfl, ⟨HQ.out⟩⟩
        case measure => rw [hwi]; exact less_step (by decide) HLT.out
      | true =>
        by_cases hab : a < x.f0
        case' pos => have hd := decide_eq_true hab
        case' neg => have hd := decide_eq_false hab
        all_goals have HAB := Lib.hid hab
        all_goals clear hab
        case pos =>
          refine wp_mono (Q := Exit.then ?_ (fun _ _ _ => False)) ?_ ?_
          rotate_left 2
          · intro e a w h
            cases e with
            | normal => exact h
            | _ => exact (show False from h).elim
          refine start_ (n := 11) (S := fun u => u.cell? ⟨F, 0, none⟩ = some (.int .i64 x.f0) ∧ u.cell? ⟨F, 1, none⟩ = some (.int .i64 x.f1) ∧ u.cell? ⟨B, 0, none⟩ = some (.int .i64 a) ∧ u.cell? ⟨B, 1, none⟩ = some (.int .i64 b)) (ds := []) #[false, false, false, false, false, false, false, false, false, false, false] (by kernel_rfl) rfl rfl ⟨z0, z1, y0, y1⟩ (fun hHeld => ?_)
          refine pS_ 0 16 ?_
          refine pS_ 1 17 ?_
          refine pS_ 2 18 ?_
          refine pS_ 3 19 ?_
          refine pS_ 6 22 ?_
          refine tS_ 4 20 hHeld ?_
          refine tS_ 7 23 hHeld ?_
          refine oS_ 5 21 (fun K hK => ?_)
          refine call_ 26 #[.agg #[.int .i64 x.f0, .int .i64 x.f1]] (by rfl) rfl (by go_simp <;> rfl) ?_
          refine (cmap_Get_1.calls x.f0 x.f1 _ _ rfl).mono ?_
          rintro e W5 ⟨rfl, hb5⟩
          refine ⟨_, rfl, ?_⟩
          have hK2 := hK.out
          clear hK
          have hk_ := keep4 hb5 hHeld.1 hHeld.2.1 hHeld.2.2.1 hHeld.2.2.2
          refine hK2 _ _ hk_ (fun hHeld => ?_)
          clear hK2
          refine nS_ ?_
          refine oS_ 8 24 (fun K hK => ?_)
          refine call_ 26 #[.agg #[.int .i64 a, .int .i64 b]] (by rfl) rfl (by go_simp <;> rfl) ?_
          refine (cmap_Get_1.calls a b _ _ rfl).mono ?_
          rintro e W8 ⟨rfl, hb8⟩
          refine ⟨_, rfl, ?_⟩
          have hK2 := hK.out
          clear hK
          have hk_ := keep4 hb8 hHeld.1 hHeld.2.1 hHeld.2.2.1 hHeld.2.2.2
          refine hK2 _ _ hk_ (fun hHeld => ?_)
          clear hK2
          refine nS_ ?_
          refine pS_ 9 25 ?_
          refine pS_ 10 26 ?_
          refine dS_ ?_
          have HV := Lib.hid (show Below U.heap.size U W8 from below_then (below_then (below_drew1 (Below.refl _ _)) (Nat.le_refl _) hb5) (below_then (below_drew1 (Below.refl _ _)) (Nat.le_refl _) hb5 : Below U.heap.size U W5).size hb8)
          obtain ⟨V, hV⟩ : ∃ V, V = W8 := ⟨_, rfl⟩
          rw [← hV] at HV hHeld ⊢
          clear hV hk_ hb5 hb8 z0 z1 y0 y1 hd
          have hpv : PickW w V a b := HP.out.below HV.out
          have hfv : V.heap[F]? = some (.cells #[.int .i64 x.f0, .int .i64 x.f1] 59 (0, 0)) := (HV.out.block F (blk_lt HF.out)).trans HF.out
          have hbv : V.heap[B]? = some (.cells #[.int .i64 a, .int .i64 b] 59 (0, 0)) := by rw [HBB.out]; exact hpv.c
          have f0 := Lib.frozen_of_heap hbv 0
          have f1 := Lib.frozen_of_heap hbv 1
          obtain ⟨t0, t1, t2, t3⟩ := hHeld
          have HQ := Lib.hid (show PickW w ((V.setCell ⟨B, 0, none⟩ (.int .i64 x.f0)).setCell ⟨B, 1, none⟩ (.int .i64 x.f1)) x.f0 x.f1 from
            ⟨(hpv.h.setCell (by rw [HBB.out]; exact Nat.le_succ _) _).setCell (by rw [HBB.out]; exact Nat.le_succ _) _,
             ((Below.heap_setCell _ _ _ _ (by rw [HBB.out]; exact Nat.ne_of_lt (Nat.lt_succ_self _))).trans (Below.heap_setCell _ _ _ _ (by rw [HBB.out]; exact Nat.ne_of_lt (Nat.lt_succ_self _)))).trans hpv.r,
             by
              have := blk_set (blk_set hbv 0 (.int .i64 x.f0)) 1 (.int .i64 x.f1)
              rw [← HBB.out]
              simpa using this⟩)
          clear hpv hfv hbv HV
          go_wp2
          have hBq := HBB.out
          subst hBq
          go_roundw
          case rel => exact ⟨i + 1, x.f0, x.f1, true, HLT.out, by rw [HSU.out]; unfold pickS; rw [if_pos (.inr HAB.out)], by rw [hwi], rfl, ⟨HQ.out⟩⟩
          case measure => rw [hwi]; exact less_step (by decide) HLT.out
        case neg =>
          refine wp_mono (Q := Exit.then ?_ (fun _ _ _ => False)) ?_ ?_
          rotate_left 2
          · intro e a w h
            cases e with
            | normal => exact h
            | _ => exact (show False from h).elim
          refine start_ (n := 11) (S := fun u => u.cell? ⟨F, 0, none⟩ = some (.int .i64 x.f0) ∧ u.cell? ⟨F, 1, none⟩ = some (.int .i64 x.f1) ∧ u.cell? ⟨B, 0, none⟩ = some (.int .i64 a) ∧ u.cell? ⟨B, 1, none⟩ = some (.int .i64 b)) (ds := []) #[false, false, false, false, false, false, false, false, false, false, false] (by kernel_rfl) rfl rfl ⟨z0, z1, y0, y1⟩ (fun hHeld => ?_)
          refine pS_ 0 16 ?_
          refine pS_ 1 17 ?_
          refine pS_ 2 18 ?_
          refine pS_ 3 19 ?_
          refine pS_ 6 22 ?_
          refine tS_ 4 20 hHeld ?_
          refine tS_ 7 23 hHeld ?_
          refine oS_ 5 21 (fun K hK => ?_)
          refine call_ 26 #[.agg #[.int .i64 x.f0, .int .i64 x.f1]] (by rfl) rfl (by go_simp <;> rfl) ?_
          refine (cmap_Get_1.calls x.f0 x.f1 _ _ rfl).mono ?_
          rintro e W5 ⟨rfl, hb5⟩
          refine ⟨_, rfl, ?_⟩
          have hK2 := hK.out
          clear hK
          have hk_ := keep4 hb5 hHeld.1 hHeld.2.1 hHeld.2.2.1 hHeld.2.2.2
          refine hK2 _ _ hk_ (fun hHeld => ?_)
          clear hK2
          refine nS_ ?_
          refine oS_ 8 24 (fun K hK => ?_)
          refine call_ 26 #[.agg #[.int .i64 a, .int .i64 b]] (by rfl) rfl (by go_simp <;> rfl) ?_
          refine (cmap_Get_1.calls a b _ _ rfl).mono ?_
          rintro e W8 ⟨rfl, hb8⟩
          refine ⟨_, rfl, ?_⟩
          have hK2 := hK.out
          clear hK
          have hk_ := keep4 hb8 hHeld.1 hHeld.2.1 hHeld.2.2.1 hHeld.2.2.2
          refine hK2 _ _ hk_ (fun hHeld => ?_)
          clear hK2
          refine nS_ ?_
          refine pS_ 9 25 ?_
          refine pS_ 10 26 ?_
          refine dS_ ?_
          have HV := Lib.hid (show Below U.heap.size U W8 from below_then (below_then (below_drew1 (Below.refl _ _)) (Nat.le_refl _) hb5) (below_then (below_drew1 (Below.refl _ _)) (Nat.le_refl _) hb5 : Below U.heap.size U W5).size hb8)
          obtain ⟨V, hV⟩ : ∃ V, V = W8 := ⟨_, rfl⟩
          rw [← hV] at HV hHeld ⊢
          clear hV hk_ hb5 hb8 z0 z1 y0 y1 hd
          have HQ := Lib.hid (HP.out.below HV.out)
          clear HV
          go_wp2
          have hBq := HBB.out
          subst hBq
          go_roundw
          case rel => exact ⟨.bool true, .pointer (some ⟨F, 0, none⟩), .int .i64 ((i : Int) + 1), ⟨i + 1, HLT.out, a, b, .inr ⟨by rw [HSU.out]; unfold pickS; rw [if_neg (by rintro (h | h); exact Bool.noConfusion h; exact absurd h (Int.not_lt.2 HAB.out))], by simp, rfl, ⟨HQ.out⟩⟩⟩, rfl, rfl, rfl, rfl⟩
          case measure => rw [show ((i : Int) + 1) = ((i + 1 : Nat) : Int) by simp]; exact less_step (by decide) HLT.out
    · have hie : i = n := by omega
      have d3 : decide ((i : Int) < (n : Int)) = false := decide_eq_false (by omega)
      have hfull : l.take i = l := List.take_of_length_le (by have := HN.out; omega)
      rw [hfull] at hbest
      have HBE := Lib.hid hbest
      have hc := HW.out.c
      have hr := HW.out.r
      have y0 : wr.cell? ⟨w.heap.size + 1, 0, none⟩ = some (.int .i64 a) := (blk_cell hc 0).trans rfl
      have y1 : wr.cell? ⟨w.heap.size + 1, 1, none⟩ = some (.int .i64 b) := (blk_cell hc 1).trans rfl
      have f0 := Lib.frozen_of_heap hr 0
      have f1 := Lib.frozen_of_heap hr 1
      have r0 : wr.cell? ⟨w.heap.size, 0, none⟩ = some (.int .i64 0) := (blk_cell hr 0).trans rfl
      have r1 : wr.cell? ⟨w.heap.size, 1, none⟩ = some (.int .i64 0) := (blk_cell hr 1).trans rfl
      have HE := Lib.hid (show ((wr.setCell ⟨w.heap.size, 0, none⟩ (.int .i64 a)).setCell ⟨w.heap.size, 1, none⟩ (.int .i64 b)).heap[w.heap.size]? = some (.cells #[.int .i64 a, .int .i64 b] 59 (0, 0)) by
        have := blk_set (blk_set hr 0 (.int .i64 a)) 1 (.int .i64 b)
        simpa using this)
      have HBL := Lib.hid ((HW.out.h.setCell (p := ⟨w.heap.size, 0, none⟩) (Nat.le_refl _) (.int .i64 a)).setCell (p := ⟨w.heap.size, 1, none⟩) (Nat.le_refl _) (.int .i64 b))
      clear hfull hbest hc hr HW hlt hi
      go_wp2
      refine bodyPost_ret (results_cell_tmp_row rfl _ _ w.heap.size _ (run_loadVar_row _ w.heap.size _ 59 _ _ _ HE.out hu rfl (by kernel_rfl)) rfl) rfl ?_
      rw [HBE.out]
      exact ⟨rfl, HBL.out⟩
end Go.Proofs.Ytejdflndgnpkcaa.P
end
section
namespace Go.Proofs.Ytejdflndgnpkcaa.P
open Go.RowKit Go.Proofs.YtejdflndgnpkcaaW.PrintWords Go.Proofs.YtejdflndgnpkcaaW.PrintLast Go.Proofs.YtejdflndgnpkcaaW.PrintMore
def bestP (p q : Int) : Int :=
 if p = 1 ∧ q = 0 then 1 else if p = 0 ∧ q = 0 then 2 else if p = 0 ∧ q = 1 then 3 else if p = 0 ∧ q = 2 then 4 else if p = 0 ∧ q = 3 then 5
 else if p = 3 ∧ q = 1 then 6 else if p = 0 ∧ q = 4 then 7 else if p = 0 ∧ q = 6 then 8 else if p = 3 ∧ q = 10 then 9 else 0
def isFmt (f : Int) : Bool := decide (f = 0 ∨ f = 4 ∨ f = 6 ∨ f = 12 ∨ f = 13)
def entM (s : ByteArray) (i : Nat) : S41 := ⟨bestP (w2 s (4 + 8 * i)) (w2 s (6 + 8 * i)), w4 s (8 + 8 * i)⟩
def mayM (s : ByteArray) (x : S41) : Bool := decide (x.f0 ≠ 0) && (decide (x.f1.toNat + 2 ≤ s.size) && isFmt (w2 s x.f1.toNat))
def entsM (s : ByteArray) (n : Nat) : List S41 := ((List.range n).map (entM s)).filter (mayM s)
def getM (s : ByteArray) : List S50 × Int :=
 if s.size < 4 then ([], 4)
 else if w2 s 0 ≠ 0 then ([], 5)
 else if 64 < w2 s 2 then ([], 7)
 else if (s.size : Int) < 4 + 8 * w2 s 2 then ([], 4)
 else if (bestS (entsM s (w2 s 2).toNat)).2 = false then ([], 6)
 else readM (s.extract (bestS (entsM s (w2 s 2).toNat)).1.f1.toNat s.size)
theorem entsM_succ (s : ByteArray) (n : Nat) : entsM s (n + 1) = entsM s n ++ (if mayM s (entM s n) = true then [entM s n] else []) := by
 unfold entsM
 rw [List.range_succ, List.map_append, List.filter_append]
 congr 1
 cases h : mayM s (entM s n) with
 | true => rw [if_pos rfl]; exact List.filter_cons_of_pos h
 | false => rw [if_neg Bool.false_ne_true]; exact List.filter_cons_of_neg (by rw [h]; exact Bool.false_ne_true)
theorem fmt_not {f : Int} (h : isFmt f = false) (m1 m2 : Nat) : fmtOf f m1 m2 = none := by
 have h := of_decide_eq_false h
 unfold fmtOf
 rw [if_neg (by omega), if_neg (by omega), if_neg (by omega), if_neg (by omega), if_neg (by omega)]
def ninE : List S41 := [⟨1, 0⟩, ⟨0, 0⟩, ⟨0, 1⟩, ⟨0, 2⟩, ⟨0, 3⟩, ⟨3, 1⟩, ⟨0, 4⟩, ⟨0, 6⟩, ⟨3, 10⟩]
theorem kind_step (k i : Nat) (p q : Int) (hi : i < 9) : cmap_kind.l0 (k + 1) ninE 9 (i : Int) p q = if p = (atK ninE i).f0 ∧ q = (atK ninE i).f1 then some (i : Int) else cmap_kind.l0 k ninE 9 ((i + 1 : Nat) : Int) p q := by
 have hw : wrap64 ((i : Int) + 1) = ((i + 1 : Nat) : Int) := by unfold wrap64; omega
 have hl : (ninE.length : Int) = 9 := rfl
 simp only [cmap_kind.l0]
 rw [if_pos (by omega), if_pos (by omega), if_pos (by rw [hl]; omega), hw, rd_atK]
 by_cases h : p = (atK ninE i).f0 ∧ q = (atK ninE i).f1
 · rw [if_pos h, if_pos (by rw [Bool.and_eq_true, beq_iff_eq, beq_iff_eq]; exact h)]
 · rw [if_neg h, if_neg (by rw [Bool.and_eq_true, beq_iff_eq, beq_iff_eq]; exact h)]
theorem best_told (p q : Int) (k : Nat) (hk : 20 ≤ k) : cmap_Best.f k p q = some (bestP p q) := by
 obtain ⟨k, rfl⟩ : ∃ m, k = m + 10 := ⟨k - 10, by omega⟩
 unfold cmap_Best.f cmap_kinds.f
 rw [Option.bind_some]
 show (cmap_kind.l0 (k + 10) ninE 9 ((0 : Nat) : Int) p q).bind _ = _
 rw [kind_step _ 0 p q (by decide), kind_step _ 1 p q (by decide), kind_step _ 2 p q (by decide), kind_step _ 3 p q (by decide), kind_step _ 4 p q (by decide), kind_step _ 5 p q (by decide), kind_step _ 6 p q (by decide), kind_step _ 7 p q (by decide), kind_step _ 8 p q (by decide)]
 have hend : cmap_kind.l0 (k + 1) ninE 9 ((8 + 1 : Nat) : Int) p q = some (-1) := by
  simp only [cmap_kind.l0]
  rw [if_neg (by decide)]
 rw [hend]
 unfold bestP
 show (if p = 1 ∧ q = 0 then _ else if p = 0 ∧ q = 0 then _ else if p = 0 ∧ q = 1 then _ else if p = 0 ∧ q = 2 then _ else if p = 0 ∧ q = 3 then _ else if p = 3 ∧ q = 1 then _ else if p = 0 ∧ q = 4 then _ else if p = 0 ∧ q = 6 then _ else if p = 3 ∧ q = 10 then _ else _ : Option Int).bind _ = _
 repeat' split
 all_goals decide +kernel
end Go.Proofs.Ytejdflndgnpkcaa.P
end
section
namespace Go.Proofs.Ytejdflndgnpkcaa.P
open Go.RowKit Go.Shelf Go.Proofs.YtejdflndgnpkcaaW.PrintWords Go.Proofs.YtejdflndgnpkcaaW.PrintLast Go.Proofs.YtejdflndgnpkcaaW.PrintMore
def numR (s : ByteArray) (p j : Nat) : Int := if j % 3 = 0 then w2 s (p + 8 * (j / 3)) else if j % 3 = 1 then w2 s (p + 2 + 8 * (j / 3)) else w4 s (p + 4 + 8 * (j / 3))
theorem numR_next (s : ByteArray) (p j : Nat) : numR s p (j + 3) = numR s (p + 8) j := by
 unfold numR
 have h1 : (j + 3) % 3 = j % 3 := by omega
 have h2 : (j + 3) / 3 = j / 3 + 1 := by omega
 have e1 : p + 8 * (j / 3 + 1) = p + 8 + 8 * (j / 3) := by omega
 have e2 : p + 2 + 8 * (j / 3 + 1) = p + 8 + 2 + 8 * (j / 3) := by omega
 have e3 : p + 4 + 8 * (j / 3 + 1) = p + 8 + 4 + 8 * (j / 3) := by omega
 rw [h1, h2, e1, e2, e3]
theorem range_three (f : Nat → Int) (m : Nat) : (List.range (3 * (m + 1))).map f = f 0 :: f 1 :: f 2 :: (List.range (3 * m)).map (fun j => f (j + 3)) := by
 have e : 3 * (m + 1) = 3 * m + 1 + 1 + 1 := by omega
 rw [e, List.range_succ_eq_map, List.map_cons, List.map_map, List.range_succ_eq_map, List.map_cons, List.map_map, List.range_succ_eq_map, List.map_cons, List.map_map]
 rfl
theorem takes_rec (s : ByteArray) : ∀ (m p : Nat), p + 8 * m ≤ s.size → takes (s.extract p s.size) (repN [2, 2, 4] m) = some ((List.range (3 * m)).map (numR s p))
 | 0, p, _ => rfl
 | m + 1, p, h => by
  have a2 : (2 : Int).natAbs = 2 := rfl
  have a4 : (4 : Int).natAbs = 4 := rfl
  have sz : ∀ p, (s.extract p s.size).size = s.size - p := fun p => by simp
  have ih := takes_rec s m (p + 8) (by omega)
  have t3 : takes (s.extract (p + 4) s.size) (4 :: repN [2, 2, 4] m) = some (w4 s (p + 4) :: (List.range (3 * m)).map (numR s (p + 8))) := take_of (by rw [a4, sz]; omega) (by rw [a4, ext_ext s (p + 4) 4 (by omega)]; exact ih)
  have t2 : takes (s.extract (p + 2) s.size) (2 :: 4 :: repN [2, 2, 4] m) = some (w2 s (p + 2) :: w4 s (p + 4) :: (List.range (3 * m)).map (numR s (p + 8))) := take_of (by rw [a2, sz]; omega) (by rw [a2, ext_ext s (p + 2) 2 (by omega)]; exact t3)
  have t1 : takes (s.extract p s.size) (2 :: 2 :: 4 :: repN [2, 2, 4] m) = some (w2 s p :: w2 s (p + 2) :: w4 s (p + 4) :: (List.range (3 * m)).map (numR s (p + 8))) := take_of (by rw [a2, sz]; omega) (by rw [a2, ext_ext s p 2 (by omega)]; exact t2)
  rw [range_three]
  refine Eq.trans t1 ?_
  congr 1
  have f : (fun j => numR s p (j + 3)) = numR s (p + 8) := funext (numR_next s p)
  rw [f]
  rfl
theorem takes_sum : ∀ (l : List Int) (t : ByteArray) (r : List Int), takes t l = some r → sumN l ≤ t.size
 | [], t, r, _ => Nat.zero_le _
 | s :: l, t, r, h => by
  simp only [takes] at h
  split at h
  ·
   rename_i hs
   cases hq : takes (t.extract s.natAbs t.size) l with
   | none => rw [hq] at h; simp at h
   | some q =>
    have ih := takes_sum l _ q hq
    have h2 : (t.extract s.natAbs t.size).size = t.size - s.natAbs := by simp
    have h3 : sumN (s :: l) = s.natAbs + sumN l := by simp [sumN]
    omega
  · simp at h
theorem get_recs (s : ByteArray) (m : Nat) (h4 : 4 ≤ s.size) : getN s 4 (repN [2, 2, 4] m) = if 4 + 8 * m ≤ s.size then ((List.range (3 * m)).map (numR s 4), 0) else ([], 4) := by
  unfold getN
  have e4 : (4 : Int).toNat = 4 := rfl
  rw [if_neg (by rintro (h | h)
                 · exact absurd h (by decide)
                 · rw [areSizes_rep [2, 2, 4] (by decide)] at h; exact absurd h (by decide)), if_neg (by omega), e4]
  by_cases h : 4 + 8 * m ≤ s.size
  · rw [if_pos h, takes_rec s m 4 h]
  · rw [if_neg h]
    cases hq : takes (s.extract 4 s.size) (repN [2, 2, 4] m) with
    | none => rfl
    | some r =>
      exfalso
      have h1 := takes_sum _ _ _ hq
      have h2 : (s.extract 4 s.size).size = s.size - 4 := by simp
      have h3 : sumN (repN [2, 2, 4] m) = 8 * m := by rw [sumN_rep]; rfl
      omega
def entX (X : List Int) (i : Nat) : S41 := ⟨bestP (rd X ((3 * i : Nat) : Int)) (rd X ((3 * i + 1 : Nat) : Int)), rd X ((3 * i + 2 : Nat) : Int)⟩
theorem recs_rd (s : ByteArray) (m : Nat) (X : List Int) (hX : X = (List.range (3 * m)).map (numR s 4)) (j : Nat) (h : j < 3 * m) : rd X (j : Int) = numR s 4 j := by
 rw [hX]; unfold rd
 rw [Int.toNat_natCast, List.getD_eq_getElem?_getD, List.getElem?_map, List.getElem?_range h]; rfl
theorem recs_told (s : ByteArray) (m : Nat) (X : List Int) (hX : X = (List.range (3 * m)).map (numR s 4)) : (List.finRange m).map (fun x => entX X x.1) = (List.range m).map (entM s) := by
 apply List.ext_getElem
 · simp
 ·
  intro i h1 h2
  have hi : i < m := by simpa using h1
  simp only [List.getElem_map, List.getElem_finRange, List.getElem_range]
  unfold entX entM
  simp only [Fin.val_cast]
  rw [recs_rd s m X hX (3 * i) (by omega), recs_rd s m X hX (3 * i + 1) (by omega), recs_rd s m X hX (3 * i + 2) (by omega)]
  unfold numR
  have d0 : 3 * i / 3 = i := by omega
  have d1 : (3 * i + 1) / 3 = i := by omega
  have d2 : (3 * i + 2) / 3 = i := by omega
  rw [if_pos (by omega), if_neg (by omega), if_pos (by omega), if_neg (by omega), if_neg (by omega), d0, d1, d2]
theorem recs_bd (s : ByteArray) (p j : Nat) : 0 ≤ numR s p j ∧ numR s p j ≤ 4294967295 := by
 unfold numR
 split
 · have := w2_bd s (p + 8 * (j / 3)); omega
 ·
  split
  · have := w2_bd s (p + 2 + 8 * (j / 3)); omega
  · exact w4_bd s _
theorem infoE : (Try.prog.info? 59).map (fun i => (i.zero, i.size, i.bytes)) = some (some (.agg #[(.int .i64 0), (.int .i64 0)]), 2, 16) := by kernel_rfl
structure RowM (w : World) (B : Nat) (ks : List Nat) (w3 : World) (W : World) (v : Value) (xs : List S41) : Prop where
 c : W.cell? ⟨B, 0, none⟩ = some v
 z : W.frozen? ⟨B, 0, none⟩ = false
 r : Kd.R k41 59 W w.heap.size (fun k => w3.heap.size ≤ k) v xs
 hB : Below w.heap.size w W
 hS : w3.heap.size ≤ W.heap.size
 hK : KeepsB ks w3 W
namespace RowM
variable {w w3 W U : World} {B : Nat} {ks : List Nat} {v v1 : Value} {xs ys : List S41}
theorem own_cells (h : RowM w B ks w3 W v xs) (k : Nat) (hk : v.ownBlock = some k) : w3.heap.size ≤ k ∧ k < W.heap.size ∧ ∃ cells q, W.heap[k]? = some (.cells cells q (0, 0)) := by
 have hb := (Kd.R_bound h.r).1 k hk
 obtain ⟨h1, h2, h3, q, hq, cells, hc⟩ := hb
 exact ⟨h1, h3, cells, q, hc⟩
theorem kept (h : RowM w B ks w3 W v xs) (hwB : w.heap.size ≤ B) (hB3 : B < w3.heap.size) (hks : ∀ k ∈ ks, k < w3.heap.size) {row : Option Nat} (hg : W.grownBy U row) (hr : ∀ r, row = some r → w3.heap.size ≤ r ∧ ∃ o : Obj, W.heap[r]? = some o ∧ o.isCells = false) : RowM w B ks w3 U v xs := by
 have hS := h.hS
 have eB : U.heap[B]? = W.heap[B]? := hg.block B (by omega) (fun e => by have := (hr B e.symm).1; omega)
 refine ⟨(cell_of eB).trans h.c, (frozen_of eB).trans h.z, ?_, h.hB.grown hg h.hB.size (fun k e => by have := (hr k e).1; omega), Nat.le_trans h.hS hg.size, fun k hk => ?_⟩
 ·
  refine Kd.R_mono (Kd.R_grown (Kd.R_bound h.r) hg (fun k hk e => ?_)) (fun k hk => hk.1)
  obtain ⟨_, _, _, q, _, cells, hc⟩ := hk
  obtain ⟨_, o, ho, hn⟩ := hr k e.symm
  rw [hc] at ho
  injection ho with ho
  subst ho
  exact absurd hn (by simp [Obj.isCells])
 ·
  have := hks k hk
  exact (hg.block k (by omega) (fun e => by have := (hr k e.symm).1; omega)).trans (h.hK k hk)
theorem below (h : RowM w B ks w3 W v xs) (hks : ∀ k ∈ ks, k < w3.heap.size) (hb : Below W.heap.size W U) : RowM w B ks w3 U v xs := by
 have hB := World.block_lt_of_cell? _ _ h.c
 dsimp only at hB
 exact ⟨(hb.cell hB).trans h.c, (frozen_of (hb.block B hB)).trans h.z, Kd.R_below h.r hb, h.hB.trans (hb.mono h.hB.size), Nat.le_trans h.hS hb.size, fun k hk => (hb.block k (Nat.lt_of_lt_of_le (hks k hk) h.hS)).trans (h.hK k hk)⟩
theorem grew (h : RowM w B ks w3 W v xs) (hwB : w.heap.size ≤ B) (hB3 : B < w3.heap.size) (hks : ∀ k ∈ ks, k < w3.heap.size) (hBk : B ∉ ks) (hr : Kd.R k41 59 U w.heap.size (fun k => w3.heap.size ≤ k) v1 ys) (hb : Below w.heap.size w U) (hg : W.grownBy U v.ownBlock) :
  U.cell? ⟨B, 0, none⟩ = some v ∧ U.frozen? ⟨B, 0, none⟩ = false ∧ RowM w B ks w3 (U.setCell ⟨B, 0, none⟩ v1) v1 ys ∧ KeepsB ks W (U.setCell ⟨B, 0, none⟩ v1) ∧
   (∀ (k : Nat) (o : Obj), W.heap[k]? = some o → o.isCells = false → k ≠ B → (U.setCell ⟨B, 0, none⟩ v1).heap[k]? = some o) := by
 have hS := h.hS
 have ne : ∀ k, k < w3.heap.size → some k ≠ v.ownBlock := fun k hk e => by have := (h.own_cells k e.symm).1; omega
 have eB : U.heap[B]? = W.heap[B]? := hg.block B (by omega) (ne B hB3)
 have c1 : U.cell? ⟨B, 0, none⟩ = some v := (cell_of eB).trans h.c
 have z1 : U.frozen? ⟨B, 0, none⟩ = false := (frozen_of eB).trans h.z
 have hkb : KeepsB ks W (U.setCell ⟨B, 0, none⟩ v1) := fun k hk => by
  have hk3 := hks k hk
  have hne : k ≠ B := fun e => hBk (e ▸ hk)
  exact (Below.heap_setCell U ⟨B, 0, none⟩ v1 k hne).trans (hg.block k (by omega) (ne k hk3))
 refine ⟨c1, z1, ⟨World.cell?_setCell_same _ _ _ c1, by rw [World.frozen?_setCell]; exact z1, Kd.R_far hr (fun k hk => by show k ≠ B; omega) _, hb.setCell hwB _, ?_, h.hK.trans hkb⟩, hkb, fun k o hk ho hne => ?_⟩
 · have := hg.size; simp; omega
 ·
  refine (Below.heap_setCell U ⟨B, 0, none⟩ v1 k hne).trans ((hg.block k (Array.getElem?_eq_some_iff.1 hk).1 (fun e => ?_)).trans hk)
  obtain ⟨_, _, cells, q, hc⟩ := h.own_cells k e.symm
  rw [hk] at hc
  injection hc with hc
  subst hc
  exact absurd ho (by simp [Obj.isCells])
theorem keepsFrom {P : Nat} (hB3 : B < P) (h : ∀ (k : Nat) (o : Obj), W.heap[k]? = some o → o.isCells = false → k ≠ B → U.heap[k]? = some o) (hs : W.heap.size ≤ U.heap.size) : KeepsFrom P W U :=
 ⟨hs, fun k o hk ho hn => h k o ho hn (by omega)⟩
end RowM
theorem keepsFrom_below {P : Nat} {W U : World} (hb : Below W.heap.size W U) : KeepsFrom P W U :=
 ⟨hb.size, fun k o _ hk _ => (hb.block k (Array.getElem?_eq_some_iff.1 hk).1).trans hk⟩
theorem ent_bytes {n : Nat} (h : n ≤ 64) : (n + 1) * 16 ≤ 140737488355328 := by omega
theorem cget_begins (w4_ : World) (m kx gx F : Nat) (s : ByteArray) (X : List Int) (w5 : World) (hgx : gx < w4_.heap.size) (hF : F < w4_.heap.size) (hcF : w4_.cell? ⟨F, 0, none⟩ = some (.string s)) (hcx : ∀ j, j < 3 * m → w4_.cell? ⟨gx, j, none⟩ = some (.int .i64 (rd X (j : Int))))
  (hw : w5 = ((w4_.alloc (.cells #[.slice none 0 0] 54)).alloc (.cells #[.slice (some ⟨gx, 0, none⟩) (3 * m) kx] 48)).alloc (.cells #[.int .i64 ((3 : Nat) : Int)] 3)) :
  RowM w4_ w4_.heap.size [w4_.heap.size + 1, w4_.heap.size + 1 + 1, gx, F] w5 w5 (.slice none 0 0) [] ∧ w5.cell? ⟨w4_.heap.size + 1, 0, none⟩ = some (.slice (some ⟨gx, 0, none⟩) (3 * m) kx) ∧ w5.cell? ⟨w4_.heap.size + 1 + 1, 0, none⟩ = some (.int .i64 ((3 : Nat) : Int)) ∧
   (∀ j, j < 3 * m → w5.cell? ⟨gx, j, none⟩ = some (.int .i64 (rd X (j : Int)))) ∧ w5.heap.size = w4_.heap.size + 3 ∧ w5.cell? ⟨F, 0, none⟩ = some (.string s) := by
 have hb : Below w4_.heap.size w4_ w5 := by
  rw [hw]; exact (((Below.refl _ w4_).alloc (Nat.le_refl _) _).alloc (by simp) _).alloc (by simp; omega) _
 have hz : w5.heap.size = w4_.heap.size + 3 := by rw [hw]; simp
 refine ⟨⟨?_, ?_, Kd.R_nil _ _ _ _ _, hb, Nat.le_refl _, KeepsB.refl _ _⟩, ?_, ?_, fun j hj => (hb.cell hgx).trans (hcx j hj), hz, (hb.cell hF).trans hcF⟩
 · rw [hw]; simp [go_sem]
 · rw [hw]; simp [go_sem]
 · rw [hw]; simp [go_sem]
 · rw [hw]; simp [go_sem]
theorem cget_final {w W W2 : World} {D : Nat} {v : Value} {xs : List S50} (hr : Kd.R k50 50 W2 w.heap.size (fun _ => True) v xs) (hB : Below w.heap.size w W) (hb : Below W.heap.size W W2) (hd : W.heap[D]? = some (.deferred (some []))) (hwD : w.heap.size ≤ D) :
  Kd.R k50 50 (W2.putObj D (.deferred none)) w.heap.size (fun _ => True) v xs ∧ Below w.heap.size w (W2.putObj D (.deferred none)) ∧ W2.heap[D]? = some (.deferred (some [])) := by
 have hd2 : W2.heap[D]? = some (.deferred (some [])) := (hb.block D (blk_lt hd)).trans hd
 have hB2 := hB.trans (hb.mono hB.size)
 have hg := grownBy_putObj' W2 D (.deferred none)
 refine ⟨Kd.R_mono (Kd.R_grown (Kd.R_bound hr) hg (fun k hk e => ?_)) (fun _ _ => trivial), hB2.grown hg hB2.size (fun k e => by cases e; exact hwD), hd2⟩
 obtain ⟨_, _, _, q, _, cells, hc⟩ := hk
 cases e
 rw [hd2] at hc
 injection hc with hc
 cases hc
theorem getM_form {s : ByteArray} (h : 4 ≤ s.size) (hf : w2 s 0 ≠ 0) : getM s = ([], 5) := by
 unfold getM
 rw [if_neg (by omega), if_pos hf]
theorem getM_long {s : ByteArray} (h : 4 ≤ s.size) (hf : w2 s 0 = 0) (hn : 64 < w2 s 2) : getM s = ([], 7) := by
 unfold getM
 rw [if_neg (by omega), if_neg (by omega), if_pos hn]
theorem getM_more {s : ByteArray} {m : Nat} (h : 4 ≤ s.size) (hf : w2 s 0 = 0) (hn : w2 s 2 = (m : Int)) (hm : m ≤ 64) (hs : ¬ 4 + 8 * m ≤ s.size) : getM s = ([], 4) := by
 unfold getM
 rw [if_neg (by omega), if_neg (by omega), if_neg (by omega), if_pos (by omega)]
theorem getM_of {s : ByteArray} {m : Nat} (h : 4 ≤ s.size) (hf : w2 s 0 = 0) (hn : w2 s 2 = (m : Int)) (hm : m ≤ 64) (hs : 4 + 8 * m ≤ s.size) : getM s = if (bestS (entsM s m)).2 = false then ([], 6) else readM (s.extract (bestS (entsM s m)).1.f1.toNat s.size) := by
 unfold getM
 rw [if_neg (by omega), if_neg (by omega), if_neg (by omega), if_neg (by omega), hn, Int.toNat_natCast]
theorem bestS_mem : ∀ (l : List S41) (o : S41 × Bool), (l.foldl pickS o) = o ∨ ∃ x ∈ l, l.foldl pickS o = (x, true)
 | [], o => .inl rfl
 | x :: l, o => by
  rw [List.foldl_cons]
  have hp : pickS o x = (x, true) ∨ pickS o x = o := by
   unfold pickS
   split
   · exact .inl rfl
   · exact .inr rfl
  rcases bestS_mem l (pickS o x) with h | ⟨y, hy, h⟩
  ·
   rcases hp with hp | hp
   · exact .inr ⟨x, List.mem_cons_self, by rw [h, hp]⟩
   · exact .inl (by rw [h, hp])
  · exact .inr ⟨y, List.mem_cons_of_mem _ hy, h⟩
theorem bestS_true {l : List S41} {x : S41} (h : bestS l = (x, true)) : x ∈ l := by
 rcases bestS_mem l (⟨0, 0⟩, false) with h1 | ⟨y, hy, h1⟩
 · unfold bestS at h; rw [h1] at h; exact absurd (Prod.mk.inj h).2 (by decide)
 · unfold bestS at h; rw [h1] at h; rw [← (Prod.mk.inj h).1]; exact hy
theorem best_at {s : ByteArray} {m : Nat} {x : S41} (h : bestS (entsM s m) = (x, true)) : 0 ≤ x.f1 ∧ x.f1.toNat + 2 ≤ s.size := by
 have hx := bestS_true h
 unfold entsM at hx
 rw [List.mem_filter] at hx
 obtain ⟨h1, h2⟩ := hx
 obtain ⟨i, _, rfl⟩ := List.mem_map.1 h1
 unfold mayM at h2
 simp only [Bool.and_eq_true, decide_eq_true_eq] at h2
 exact ⟨(w4_bd s (8 + 8 * i)).1, h2.2.1⟩
theorem Formats.below {W U : World} {bm m1 m2 : Nat} (h : Formats W bm m1 m2) (hb : Below W.heap.size W U) : Formats U bm m1 m2 :=
 ⟨(hb.block _ (blk_lt' h.m)).trans h.m, (hb.block _ (blk_lt' h.a)).trans h.a, (hb.block _ (blk_lt' h.c)).trans h.c⟩
theorem look_form (f : Int) : ∃ (v0 : Value) (v1 : Nat → Nat → Value) (a b : Int), v0.oneCell' = true ∧ (∀ m1 m2, (v1 m1 m2).oneCell' = true) ∧
  ∀ (W : World) (bm m1 m2 : Nat), Formats W bm m1 m2 → (Instr.lookup 45 (.map (some bm)) (.int .i64 f) true).run Try.prog W = .ok (.tuple #[.agg #[v0, v1 m1 m2, .int .i64 a, .int .i64 b], .bool (isFmt f)]) W := by
 have hrun : ∀ (W : World) (bm m1 m2 i : Nat) (v : Value), Formats W bm m1 m2 → fmtOf f m1 m2 = some (i, v) → (Instr.lookup 45 (.map (some bm)) (.int .i64 f) true).run Try.prog W = .ok (.tuple #[v, .bool true]) W := fun W bm m1 m2 i v hF hx =>
  look_run W bm _ _ f hF.m (some (i, v)) ((find_fmt f m1 m2).trans (congrArg some hx))
 have hrun0 : ∀ (W : World) (bm m1 m2 : Nat), Formats W bm m1 m2 → fmtOf f m1 m2 = none → (Instr.lookup 45 (.map (some bm)) (.int .i64 f) true).run Try.prog W = .ok (.tuple #[.agg #[.nilFunc, .nilFunc, .int .i64 0, .int .i64 0], .bool false]) W := fun W bm m1 m2 hF hx =>
  look_run W bm _ _ f hF.m none ((find_fmt f m1 m2).trans (congrArg some hx))
 by_cases h : isFmt f = true
 case neg =>
  have h : isFmt f = false := by cases hh : isFmt f with | true => exact absurd hh h | false => rfl
  rw [h]
  exact ⟨.nilFunc, fun _ _ => .nilFunc, 0, 0, rfl, fun _ _ => rfl, fun W bm m1 m2 hF => hrun0 W bm m1 m2 hF (fmt_not h m1 m2)⟩
 rw [h]
 have hh := of_decide_eq_true h
 by_cases h0 : f = 0
 · exact ⟨_, fun _ _ => _, _, _, rfl, fun _ _ => rfl, fun W bm m1 m2 hF => hrun W bm m1 m2 0 fmt0 hF (by unfold fmtOf; rw [if_pos h0])⟩
 by_cases h1 : f = 4
 · exact ⟨_, fun _ _ => _, _, _, rfl, fun _ _ => rfl, fun W bm m1 m2 hF => hrun W bm m1 m2 1 fmt4 hF (by unfold fmtOf; rw [if_neg h0, if_pos h1])⟩
 by_cases h2 : f = 6
 · exact ⟨_, fun _ _ => _, _, _, rfl, fun _ _ => rfl, fun W bm m1 m2 hF => hrun W bm m1 m2 2 fmt6 hF (by unfold fmtOf; rw [if_neg h0, if_neg h1, if_pos h2])⟩
 by_cases h3 : f = 12
 · exact ⟨_, fun m1 _ => .func (.func 37) #[] #[.pointer (some ⟨m1, 0, none⟩)], _, _, rfl, fun _ _ => rfl, fun W bm m1 m2 hF => hrun W bm m1 m2 3 (fmtG m1) hF (by unfold fmtOf; rw [if_neg h0, if_neg h1, if_neg h2, if_pos h3])⟩
 · exact ⟨_, fun _ m2 => .func (.func 37) #[] #[.pointer (some ⟨m2, 0, none⟩)], _, _, rfl, fun _ _ => rfl, fun W bm m1 m2 hF => hrun W bm m1 m2 4 (fmtG m2) hF (by unfold fmtOf; rw [if_neg h0, if_neg h1, if_neg h2, if_neg h3, if_pos (by omega)])⟩
theorem may_snoc {m : Nat} (s : ByteArray) (X : List Int) (pre : List (Fin m)) (x : Fin m) : ((pre ++ [x]).map (fun x => entX X x.1)).filter (mayM s) = (pre.map (fun x => entX X x.1)).filter (mayM s) ++ (if mayM s (entX X x.1) = true then [entX X x.1] else []) := by
 rw [List.map_append, List.filter_append]
 congr 1
 show List.filter (mayM s) [entX X x.1] = _
 cases h : mayM s (entX X x.1) with
 | true => rw [if_pos rfl]; exact List.filter_cons_of_pos h
 | false => rw [if_neg Bool.false_ne_true]; exact List.filter_cons_of_neg (by rw [h]; exact Bool.false_ne_true)
theorem may_len {m : Nat} (s : ByteArray) (X : List Int) (pre : List (Fin m)) : ((pre.map (fun x => entX X x.1)).filter (mayM s)).length ≤ pre.length := by
 refine Nat.le_trans (List.length_filter_le _ _) ?_
 rw [List.length_map]
 exact Nat.le_refl _
end Go.Proofs.Ytejdflndgnpkcaa.P
end
section
namespace Go.Proofs.Ytejdflndgnpkcaa.P
open Go.RowKit Go.Shelf Go.Proofs.YtejdflndgnpkcaaW.PrintWords Go.Proofs.YtejdflndgnpkcaaW.PrintLast Go.Proofs.YtejdflndgnpkcaaW.PrintMore
attribute [local go_sem] Oper.semAt_some
attribute [local go_sem] max2_int min2_int max_two min_two max_three min_three max_four min_four
set_option maxRecDepth 100000 in
set_option maxHeartbeats 2000000 in
theorem cget_short (s : ByteArray) (w : World) (h : s.size < 4) :
  Calls Try.prog 9 #[.string s] w fun e w' => ∃ v0_ : Value, e = .returned (.tuple #[v0_, .int .i64 4]) ∧ Kd.R k50 50 w' w.heap.size (fun _ => True) v0_ [] ∧ Below w.heap.size w w' := by
 have hg0 := get_two s 0
 rw [if_neg (by omega)] at hg0
 have HG := Lib.hid (show getN s 0 [2, 2] = ([], 4) from hg0)
 clear h hg0
 refine (callsIn_wide (n := 9)).1 (callsIn_of_wp_marks Try.func9 rfl trivial (wpIn_wide.2 ?_) rfl)
 simp only [Try.ntmps9, List.size_toArray, List.length_cons, List.length_nil, Nat.reduceAdd, Nat.reduceSub, Array.replicate_succ, Array.replicate_zero, List.push_toArray, List.append_toArray, List.nil_append, List.cons_append]
 go_wp2_with fail
 have C1 := lit_C (w.alloc (.cells #[.string s] 9)) [2, 2] (by decide)
 rw [World.size_alloc] at C1
 refine (bin_Get.calls s 0 _ 2 [2, 2] [] 4 _ C1 (Nat.le_refl _) (by unfold bin_Get.f; rw [if_pos (by decide), HG.out])).mono ?_
 rintro e w1 ⟨v, rfl, hr, hb⟩
 have B1 := Lib.hid ((below_alloc (below_alloc (Below.refl w.heap.size w) _) _).trans (hb.mono (by simp; omega)))
 clear hr hb C1
 go_wp2
 exact ⟨_, results_tmp2 rfl _ _ _, _, rfl, Kd.R_nil _ _ _ _ _, B1.out⟩
theorem st_run (W : World) (a : Addr) (v u : Value) (hv : v.oneCell' = true) (hc : W.cell? a = some u) (hf : W.frozen? a = false) : (store a v).run Try.prog W = .ok () (W.setCell a v) := by
 rw [run_store _ _ _ _ _ hv, hc]
 simp [hf]
theorem store2_run {oi : Oper} {a : Act} {w : World} {g : Nat} {p v : Tmp} {e : TypeId} (x y : Int) {u0 u1 : Value} (hop : oi.op = .store 59 (.tmp p) (.tmp v)) (hp : a.eval (.tmp p) = .pointer (some ⟨g, 0, none⟩)) (hv : a.eval (.tmp v) = .agg #[.int .i64 x, .int .i64 y])
  (hg : w.heap[g]? = some (.cells #[u0, u1] e (0, 0))) :
  (execOp a.eval oi).run Try.prog w = .ok .skip ((w.setCell ⟨g, 0, none⟩ (.int .i64 x)).setCell ⟨g, 1, none⟩ (.int .i64 y)) := by
 have c0 : w.cell? ⟨g, 0, none⟩ = some u0 := (blk_cell hg 0).trans rfl
 have c1 : w.cell? ⟨g, 1, none⟩ = some u1 := (blk_cell hg 1).trans rfl
 have f0 := Lib.frozen_of_heap hg 0
 have f1 := Lib.frozen_of_heap hg 1
 have hsz : ∀ w : World, (sizeOf 59).run Try.prog w = .ok 2 w := fun w => by kernel_rfl
 unfold execOp
 rw [hop]
 dsimp only
 rw [hp, hv]
 go_simp
theorem store4_run {oi : Oper} {a : Act} {w : World} {g : Nat} {p v : Tmp} {e : TypeId} (v0 v1 : Value) (x y : Int) (o0 : v0.oneCell' = true) (o1 : v1.oneCell' = true) {u0 u1 u2 u3 : Value} (hop : oi.op = .store 43 (.tmp p) (.tmp v)) (hp : a.eval (.tmp p) = .pointer (some ⟨g, 0, none⟩)) (hv : a.eval (.tmp v) = .agg #[v0, v1, .int .i64 x, .int .i64 y])
  (hg : w.heap[g]? = some (.cells #[u0, u1, u2, u3] e (0, 0))) :
  (execOp a.eval oi).run Try.prog w = .ok .skip ((((w.setCell ⟨g, 0, none⟩ v0).setCell ⟨g, 1, none⟩ v1).setCell ⟨g, 2, none⟩ (.int .i64 x)).setCell ⟨g, 3, none⟩ (.int .i64 y)) := by
 have h1 := blk_set hg 0 v0
 have h2 := blk_set h1 1 v1
 have s0 := st_run w ⟨g, 0, none⟩ v0 u0 o0 ((blk_cell hg 0).trans rfl) (Lib.frozen_of_heap hg 0)
 have s1 := st_run _ ⟨g, 1, none⟩ v1 u1 o1 ((blk_cell h1 1).trans (by simp)) (Lib.frozen_of_heap h1 1)
 have s2 := st_run _ ⟨g, 2, none⟩ (.int .i64 x) u2 rfl ((blk_cell h2 2).trans (by simp)) (Lib.frozen_of_heap h2 2)
 have h3 := blk_set h2 2 (.int .i64 x)
 have s3 := st_run _ ⟨g, 3, none⟩ (.int .i64 y) u3 rfl ((blk_cell h3 3).trans (by simp)) (Lib.frozen_of_heap h3 3)
 have c2 : w.cell? ⟨g, 2, none⟩ = some u2 := (blk_cell hg 2).trans rfl
 have c3 : w.cell? ⟨g, 3, none⟩ = some u3 := (blk_cell hg 3).trans rfl
 have f2 := Lib.frozen_of_heap hg 2
 have f3 := Lib.frozen_of_heap hg 3
 have hsz : ∀ w : World, (sizeOf 43).run Try.prog w = .ok 4 w := fun w => by kernel_rfl
 unfold execOp
 rw [hop]
 dsimp only
 rw [hp, hv]
 go_simp
theorem lookop_run {oi : Oper} {a : Act} {w : World} {p q : Tmp} {bm : Nat} {f : Int} {v : Value} (hop : oi.op = .lookup 45 (.tmp p) (.tmp q) true) (hp : a.eval (.tmp p) = .map (some bm)) (hq : a.eval (.tmp q) = .int .i64 f)
  (hl : (Instr.lookup 45 (.map (some bm)) (.int .i64 f) true).run Try.prog w = .ok v w) : (execOp a.eval oi).run Try.prog w = .ok (.value v) w := by
 unfold execOp
 rw [hop]
 dsimp only
 rw [hp, hq]
 simp [hl, Result.andThen]
theorem put2_block {W : World} {g : Nat} {u0 u1 : Value} {e : TypeId} (hg : W.heap[g]? = some (.cells #[u0, u1] e (0, 0))) (v0 v1 : Value) : ((W.setCell ⟨g, 0, none⟩ v0).setCell ⟨g, 1, none⟩ v1).heap[g]? = some (.cells #[v0, v1] e (0, 0)) := by
 have h := blk_set (blk_set hg 0 v0) 1 v1
 simpa using h
set_option maxRecDepth 100000 in
set_option maxHeartbeats 16000000 in
theorem cget_form (s : ByteArray) (w : World) (h : 4 ≤ s.size) (hform : w2 s 0 ≠ 0) (r : List S50 × Int) (hr : ([], 5) = r) :
  Calls Try.prog 9 #[.string s] w fun e w' => ∃ v0_ : Value, e = .returned (.tuple #[v0_, .int .i64 r.2]) ∧ Kd.R k50 50 w' w.heap.size (fun _ => True) v0_ r.1 ∧ Below w.heap.size w w' := by
 have hg0 := get_two s 0
 rw [if_pos (by omega)] at hg0
 have HG := Lib.hid (show getN s 0 [2, 2] = ([w2 s 0, w2 s 2], 0) from hg0)
 obtain ⟨f, hf⟩ : ∃ f, f = w2 s 0 := ⟨_, rfl⟩
 obtain ⟨n, hn⟩ : ∃ n, n = w2 s 2 := ⟨_, rfl⟩
 have hnb := w2_bd s 2
 rw [← hn] at hnb
 have HF := Lib.hid hf
 have HN := Lib.hid hn
 have HNB := Lib.hid hnb
 have HS := Lib.hid h
 have HR := Lib.hid hr
 rw [← hf, ← hn] at HG
 clear hg0 hf hn hnb h hr
 refine (callsIn_wide (n := 9)).1 (callsIn_of_wp_marks Try.func9 rfl trivial (wpIn_wide.2 ?_) rfl)
 simp only [Try.ntmps9, List.size_toArray, List.length_cons, List.length_nil, Nat.reduceAdd, Nat.reduceSub, Array.replicate_succ, Array.replicate_zero, List.push_toArray, List.append_toArray, List.nil_append, List.cons_append]
 go_wp2_with fail
 have C1 := lit_C (w.alloc (.cells #[.string s] 9)) [2, 2] (by decide)
 rw [World.size_alloc] at C1
 refine (bin_Get.calls s 0 _ 2 [2, 2] [f, n] 0 _ C1 (Nat.le_refl _) (by unfold bin_Get.f; rw [if_pos (by decide), HG.out])).mono ?_
 rintro e w1 ⟨v, rfl, hr, hb⟩
 have B1 := Lib.hid ((below_alloc (below_alloc (Below.refl w.heap.size w) _) _).trans (hb.mono (by simp; omega)))
 obtain ⟨g0, k0, rfl, hg1, hg2, hk1, hk2, hcs⟩ := row_block hr (by simp)
 have hlen : ([f, n] : List Int).length = 2 := rfl
 rw [hlen] at hk1 hcs ⊢
 have x0 : w1.cell? ⟨g0, 0, none⟩ = some (.int .i64 f) := (hcs 0 (by decide)).trans rfl
 have x1 : w1.cell? ⟨g0, 1, none⟩ = some (.int .i64 n) := (hcs 1 (by decide)).trans rfl
 have hb0 : ((w.alloc (.cells #[.string s] 9)).alloc (.cells (([2, 2] : List Int).map (Value.int .i64)).toArray 3)).cell? ⟨w.heap.size, 0, none⟩ = some (.string s) := by simp [go_sem]
 have xs : w1.cell? ⟨w.heap.size, 0, none⟩ = some (.string s) := (hb.cell (by simp; omega)).trans hb0
 clear hr hb C1 hg1 hk2 hcs hlen hb0
 have d1 : (f != 0) = true := by rw [HF.out]; simpa using hform
 have HRE := Lib.hid HR.out
 clear hform
 go_wp2
 rw [← HRE.out]
 exact ⟨_, results_tmp2 rfl _ _ _, _, rfl, Kd.R_nil _ _ _ _ _, B1.out⟩
set_option maxRecDepth 100000 in
set_option maxHeartbeats 16000000 in
theorem cget_long (s : ByteArray) (w : World) (h : 4 ≤ s.size) (hform : w2 s 0 = 0) (hlong : 64 < w2 s 2) (r : List S50 × Int) (hr : ([], 7) = r) :
  Calls Try.prog 9 #[.string s] w fun e w' => ∃ v0_ : Value, e = .returned (.tuple #[v0_, .int .i64 r.2]) ∧ Kd.R k50 50 w' w.heap.size (fun _ => True) v0_ r.1 ∧ Below w.heap.size w w' := by
 have hg0 := get_two s 0
 rw [if_pos (by omega)] at hg0
 have HG := Lib.hid (show getN s 0 [2, 2] = ([w2 s 0, w2 s 2], 0) from hg0)
 obtain ⟨f, hf⟩ : ∃ f, f = w2 s 0 := ⟨_, rfl⟩
 obtain ⟨n, hn⟩ : ∃ n, n = w2 s 2 := ⟨_, rfl⟩
 have hnb := w2_bd s 2
 rw [← hn] at hnb
 have HF := Lib.hid hf
 have HN := Lib.hid hn
 have HNB := Lib.hid hnb
 have HS := Lib.hid h
 have HR := Lib.hid hr
 rw [← hf, ← hn] at HG
 clear hg0 hf hn hnb h hr
 refine (callsIn_wide (n := 9)).1 (callsIn_of_wp_marks Try.func9 rfl trivial (wpIn_wide.2 ?_) rfl)
 simp only [Try.ntmps9, List.size_toArray, List.length_cons, List.length_nil, Nat.reduceAdd, Nat.reduceSub, Array.replicate_succ, Array.replicate_zero, List.push_toArray, List.append_toArray, List.nil_append, List.cons_append]
 go_wp2_with fail
 have C1 := lit_C (w.alloc (.cells #[.string s] 9)) [2, 2] (by decide)
 rw [World.size_alloc] at C1
 refine (bin_Get.calls s 0 _ 2 [2, 2] [f, n] 0 _ C1 (Nat.le_refl _) (by unfold bin_Get.f; rw [if_pos (by decide), HG.out])).mono ?_
 rintro e w1 ⟨v, rfl, hr, hb⟩
 have B1 := Lib.hid ((below_alloc (below_alloc (Below.refl w.heap.size w) _) _).trans (hb.mono (by simp; omega)))
 obtain ⟨g0, k0, rfl, hg1, hg2, hk1, hk2, hcs⟩ := row_block hr (by simp)
 have hlen : ([f, n] : List Int).length = 2 := rfl
 rw [hlen] at hk1 hcs ⊢
 have x0 : w1.cell? ⟨g0, 0, none⟩ = some (.int .i64 f) := (hcs 0 (by decide)).trans rfl
 have x1 : w1.cell? ⟨g0, 1, none⟩ = some (.int .i64 n) := (hcs 1 (by decide)).trans rfl
 have hb0 : ((w.alloc (.cells #[.string s] 9)).alloc (.cells (([2, 2] : List Int).map (Value.int .i64)).toArray 3)).cell? ⟨w.heap.size, 0, none⟩ = some (.string s) := by simp [go_sem]
 have xs : w1.cell? ⟨w.heap.size, 0, none⟩ = some (.string s) := (hb.cell (by simp; omega)).trans hb0
 clear hr hb C1 hg1 hk2 hcs hlen hb0
 have d1 : (f != 0) = false := by rw [HF.out, hform]; rfl
 have d2 : decide ((64 : Int) < n) = true := decide_eq_true (by rw [HN.out]; exact hlong)
 have HRE := Lib.hid HR.out
 clear hform hlong
 go_wp2
 rw [← HRE.out]
 exact ⟨_, results_tmp2 rfl _ _ _, _, rfl, Kd.R_nil _ _ _ _ _, B1.out⟩
set_option maxRecDepth 100000 in
set_option maxHeartbeats 16000000 in
theorem cget_main (s : ByteArray) (w : World) (h : 4 ≤ s.size) (hform : w2 s 0 = 0) (m : Nat) (hm : w2 s 2 = (m : Int)) (hm2 : m ≤ 64) (r : List S50 × Int) (hr : getM s = r) :
  Calls Try.prog 9 #[.string s] w fun e w' => ∃ v0_ : Value, e = .returned (.tuple #[v0_, .int .i64 r.2]) ∧ Kd.R k50 50 w' w.heap.size (fun _ => True) v0_ r.1 ∧ Below w.heap.size w w' := by
 have hg0 := get_two s 0
 rw [if_pos (by omega)] at hg0
 have HG := Lib.hid (show getN s 0 [2, 2] = ([w2 s 0, w2 s 2], 0) from hg0)
 obtain ⟨f, hf⟩ : ∃ f, f = w2 s 0 := ⟨_, rfl⟩
 obtain ⟨n, hn⟩ : ∃ n, n = w2 s 2 := ⟨_, rfl⟩
 have hnb := w2_bd s 2
 rw [← hn] at hnb
 have HF := Lib.hid hf
 have HN := Lib.hid hn
 have HNB := Lib.hid hnb
 have HS := Lib.hid h
 have HR := Lib.hid hr
 rw [← hf, ← hn] at HG
 clear hg0 hf hn hnb h hr
 refine (callsIn_wide (n := 9)).1 (callsIn_of_wp_marks Try.func9 rfl trivial (wpIn_wide.2 ?_) rfl)
 simp only [Try.ntmps9, List.size_toArray, List.length_cons, List.length_nil, Nat.reduceAdd, Nat.reduceSub, Array.replicate_succ, Array.replicate_zero, List.push_toArray, List.append_toArray, List.nil_append, List.cons_append]
 go_wp2_with fail
 have C1 := lit_C (w.alloc (.cells #[.string s] 9)) [2, 2] (by decide)
 rw [World.size_alloc] at C1
 refine (bin_Get.calls s 0 _ 2 [2, 2] [f, n] 0 _ C1 (Nat.le_refl _) (by unfold bin_Get.f; rw [if_pos (by decide), HG.out])).mono ?_
 rintro e w1 ⟨v, rfl, hr, hb⟩
 have B1 := Lib.hid ((below_alloc (below_alloc (Below.refl w.heap.size w) _) _).trans (hb.mono (by simp; omega)))
 obtain ⟨g0, k0, rfl, hg1, hg2, hk1, hk2, hcs⟩ := row_block hr (by simp)
 have hlen : ([f, n] : List Int).length = 2 := rfl
 rw [hlen] at hk1 hcs ⊢
 have x0 : w1.cell? ⟨g0, 0, none⟩ = some (.int .i64 f) := (hcs 0 (by decide)).trans rfl
 have x1 : w1.cell? ⟨g0, 1, none⟩ = some (.int .i64 n) := (hcs 1 (by decide)).trans rfl
 have hb0 : ((w.alloc (.cells #[.string s] 9)).alloc (.cells (([2, 2] : List Int).map (Value.int .i64)).toArray 3)).cell? ⟨w.heap.size, 0, none⟩ = some (.string s) := by simp [go_sem]
 have xs : w1.cell? ⟨w.heap.size, 0, none⟩ = some (.string s) := (hb.cell (by simp; omega)).trans hb0
 clear hr hb C1 hg1 hk2 hcs hlen hb0
 have d1 : (f != 0) = false := by rw [HF.out, hform]; rfl
 have d2 : decide ((64 : Int) < n) = false := decide_eq_false (by rw [HN.out, hm]; omega)
 have HM := Lib.hid (show n = (m : Int) ∧ m ≤ 64 from ⟨by rw [HN.out, hm], hm2⟩)
 obtain ⟨X, e1, hgx⟩ : ∃ X e1, getN s 4 (repN [2, 2, 4] m) = (X, e1) := ⟨_, _, rfl⟩
 have HGX := Lib.hid hgx
 have HFM := Lib.hid hform
 clear hform hm hm2 hgx
 go_wp2_with fail
 refine wp_mono (Q := Exit.then ?_ (fun _ _ _ => False)) ?_ ?_
 rotate_left 2
 ·
  intro e a w h
  cases e with
  | normal => exact h
  | _ => exact (show False from h).elim
 refine start_ (n := 12) (S := fun u => u.cell? ⟨w.heap.size, 0, none⟩ = some (.string s) ∧ u.cell? ⟨g0, 1, none⟩ = some (.int .i64 n)) (ds := []) #[false, false, false, false, false, false, false, false, false, false, false, false] (by kernel_rfl) rfl rfl ⟨xs, x1⟩ (fun hHeld => ?_)
 have hlg := World.block_lt_of_cell? _ _ x1
 have hls := World.block_lt_of_cell? _ _ xs
 dsimp only at hlg hls
 clear x0 x1 xs
 obtain ⟨u0, hu0⟩ : ∃ u0, u0 = w1.drew := ⟨_, rfl⟩
 have HU0 := Lib.hid (show Below w1.heap.size w1 u0 by rw [hu0]; exact below_drew1 (Below.refl _ _))
 have HZ0 := Lib.hid (show u0.heap.size = w1.heap.size by rw [hu0]; rfl)
 have HLG := Lib.hid (show g0 < u0.heap.size by rw [hu0]; exact hlg)
 have HLS := Lib.hid (show w.heap.size < u0.heap.size by rw [hu0]; exact hls)
 rw [← hu0] at hHeld ⊢
 clear hu0 hlg hls
 refine pS_ 2 39 ?_
 refine pS_ 3 40 ?_
 refine tS_ 0 37 hHeld ?_
 refine tS_ 4 41 hHeld ?_
 refine oS_ 1 38 (fun K hK => ?_)
 refine vS_ ?_
 refine hK.out _ _ ⟨cell_al _ hHeld.1, cell_al _ hHeld.2⟩ (fun hHeld2 => ?_)
 clear hK K
 refine nS_ ?_
 refine oS_ 5 42 (fun K hK => ?_)
 have C2 := lit_C u0 [2, 2, 4] (by decide)
 have hfr : slices_Repeat.f [2, 2, 4] n = some (repN [2, 2, 4] m) := by
  have := HM.out
  unfold slices_Repeat.f
  rw [this.1, if_pos (by refine ⟨by omega, by omega, by decide, ?_⟩; show 3 * ((m : Nat) : Int).toNat ≤ _; omega), Int.toNat_natCast]
 refine call_ 23 #[.slice (some ⟨u0.heap.size, 0, none⟩) 3 3, .int .i64 n] (by rfl) rfl (by go_simp <;> rfl) ?_
 refine (slices_Repeat.calls _ 3 [2, 2, 4] n _ _ C2 (Nat.le_refl _) hfr).mono ?_
 rintro e w2_ ⟨v, rfl, hr, hb⟩
 refine ⟨_, rfl, ?_⟩
 obtain ⟨A2, k2, rfl⟩ := Kd.R_slice hr
 obtain ⟨_, _, e5, hk2, C3⟩ := Kd.R_reads hr
 injection e5 with e6 e7 e8
 subst e6
 subst e8
 have hb2 : Below u0.heap.size u0 w2_ := (below_alloc (Below.refl u0.heap.size u0) _).trans (hb.mono (by simp))
 have hK2 := hK.out
 clear hK
 have hk_ : w2_.cell? ⟨w.heap.size, 0, none⟩ = some (.string s) ∧ w2_.cell? ⟨g0, 1, none⟩ = some (.int .i64 n) := ⟨(hb2.cell HLS.out).trans hHeld.1, (hb2.cell HLG.out).trans hHeld.2⟩
 refine hK2 _ _ hk_ (fun hHeld3 => ?_)
 clear hK2 hk_ C2 hfr hr hb e7
 have HB2 := Lib.hid hb2
 clear hb2
 refine nS_ ?_
 refine oS_ 6 43 (fun K hK => ?_)
 have hl1 : (repN [2, 2, 4] m).length = 3 * m := by rw [repN_length]; rfl
 refine call_ 22 #[.string s, .int .i64 4, .slice A2 (repN [2, 2, 4] m).length k2] (by rfl) rfl (by go_simp <;> rfl) ?_
 refine (bin_Get.calls s 4 A2 k2 (repN [2, 2, 4] m) X e1 w2_ C3 hk2 (by unfold bin_Get.f; rw [if_pos (by rw [hl1]; have := HM.out; omega), HGX.out])).mono ?_
 rintro e w3_ ⟨v, rfl, hr, hb⟩
 refine ⟨_, rfl, ?_⟩
 have hK2 := hK.out
 clear hK
 have hk_ : w3_.cell? ⟨w.heap.size, 0, none⟩ = some (.string s) ∧ w3_.cell? ⟨g0, 1, none⟩ = some (.int .i64 n) := ⟨(hb.cell (World.block_lt_of_cell? _ _ hHeld3.1)).trans hHeld3.1, (hb.cell (World.block_lt_of_cell? _ _ hHeld3.2)).trans hHeld3.2⟩
 refine hK2 _ _ hk_ (fun hHeld4 => ?_)
 clear hK2 hk_
 have B3 := Lib.hid ((B1.out.trans (HU0.out.mono B1.out.size)).trans (((HB2.out.trans (hb.mono HB2.out.size)).mono (by rw [HZ0.out]; exact B1.out.size))))
 have cS3 := hHeld4.1
 refine nS_ ?_
 refine pS_ 7 36 ?_
 refine pS_ 8 44 ?_
 refine pS_ 9 45 ?_
 refine pS_ 10 6 ?_
 refine pS_ 11 5 ?_
 refine dS_ ?_
 clear hHeld hHeld2 hHeld3 hHeld4 C3 hk2 hl1 hg2 hk1 HU0 HZ0 HLG HLS HB2
 have hrec := get_recs s m HS.out
 rw [HGX.out] at hrec
 by_cases hsz : 4 + 8 * m ≤ s.size
 case neg =>
  rw [if_neg hsz] at hrec
  obtain ⟨rfl, rfl⟩ := Prod.mk.inj hrec
  obtain ⟨A3, k3, rfl⟩ := Kd.R_slice hr
  have HRE := Lib.hid (HR.out.symm.trans (getM_more HS.out HFM.out (by rw [← HN.out]; exact HM.out.1) HM.out.2 hsz))
  clear hrec hr hb hsz
  go_wp2
  rw [HRE.out]
  exact ⟨_, results_tmp2 rfl _ _ _, _, rfl, Kd.R_nil _ _ _ _ _, B3.out⟩
 rw [if_pos hsz] at hrec
 obtain ⟨hX, rfl⟩ := Prod.mk.inj hrec
 have HX := Lib.hid hX
 have HXL := Lib.hid (show X.length = 3 * m by rw [hX]; simp)
 have hres : (if (bestS (entsM s m)).2 = false then ([], 6) else readM (s.extract (bestS (entsM s m)).1.f1.toNat s.size)) = r := by
  rw [← HR.out, getM_of HS.out HFM.out (by rw [← HN.out]; exact HM.out.1) HM.out.2 hsz]
 have HRES := Lib.hid hres
 have HSZ := Lib.hid hsz
 have hcS := World.block_lt_of_cell? _ _ cS3
 dsimp only at hcS
 have HCS := Lib.hid cS3
 have HCL := Lib.hid hcS
 clear hrec hX hsz hres cS3 hcS
 by_cases hm0 : m = 0
 ·
  obtain ⟨A3, k3, rfl⟩ := Kd.R_slice hr
  have hx0 : X.length = 0 := by rw [HXL.out, hm0]
  rw [hx0]
  have HM0 := Lib.hid hm0
  clear hr hb hx0 hm0
  go_wp2_with fail
  have hch := chunk_calls A3 0 k3 3 (by decide) (by decide) (w3_.alloc (.cells #[.slice none 0 0] 54))
  refine hch.mono ?_
  clear hch
  rintro x w5 ⟨rfl, hw5⟩
  have hb5 : Below w3_.heap.size w3_ w5 := by rw [hw5]; exact (((Below.refl _ w3_).alloc (Nat.le_refl _) _).alloc (by simp) _).alloc (by simp; omega) _
  have hz5 : w5.heap.size = w3_.heap.size + 3 := by rw [hw5]; simp
  have c5 : w5.cell? ⟨w3_.heap.size + 1, 0, none⟩ = some (.slice A3 0 k3) := by rw [hw5]; simp [go_sem]
  have c6 : w5.cell? ⟨w3_.heap.size, 0, none⟩ = some (.slice none 0 0) := by rw [hw5]; simp [go_sem]
  have hs4 : (w3_.alloc (.cells #[.slice none 0 0] 54)).heap.size = w3_.heap.size + 1 := by simp
  simp only [hs4]
  have HB5 := Lib.hid hb5
  have HZ5 := Lib.hid hz5
  have HC5 := Lib.hid c5
  have HC6 := Lib.hid c6
  clear hb5 hz5 c5 c6 hs4 hw5
  go_wp2_with fail
  refine (wpIn_wide (n := 9)).1 ?_
  refine wpIn_rangeFunc_ownG (F := Fence.wide) (n := 9) rfl (by decide) (gf := 51) (lb := #[.pointer (some ⟨w3_.heap.size + 1, 0, none⟩), .pointer (some ⟨w3_.heap.size + 1 + 1, 0, none⟩)]) rfl trivial (enters_of Try.func51 (by kernel_rfl) rfl)
   (chunk0_stops 8 (w3_.heap.size + 1) (w3_.heap.size + 1 + 1) A3 k3 [w3_.heap.size] w5 (by have := HZ5.out; omega) HC5.out (fun _ => #[.slice none 0 0]))
   (fun h k => h.trans k) (keepsB_b (fun k hk => by have := HZ5.out; simp at hk; omega)) (Below.refl _ _) (fun _ => rfl)
   (fun pre W => Below w.heap.size w W ∧ KeepsB [w3_.heap.size] w5 W)
   (fun _ _ _ => False) ?hI0 (fun _ _ _ _ _ hs _ _ => hs) ⟨B3.out.trans (HB5.out.mono B3.out.size), KeepsB.refl _ _⟩ (fun x => x.elim0) ?assign0 ?body0 ?done0 ?stop0
  case hI0 =>
   intro s_ A_ U row hv hg hr
   refine ⟨hv.1.grown hg hv.1.size (fun k e => by have := (hr k e).1; have := HZ5.out; have := B3.out.size; omega), fun k hk => ?_⟩
   have hk' : k = w3_.heap.size := by simpa using hk
   subst hk'
   have hsz : w3_.heap.size < A_.heap.size := by
    have := hv.2 w3_.heap.size (by simp)
    have hlt : w3_.heap.size < w5.heap.size := by have := HZ5.out; omega
    rw [Array.getElem?_eq_getElem hlt] at this
    exact (Array.getElem?_eq_some_iff.1 this).1
   exact (hg.block _ hsz (fun e => by have := (hr _ e.symm).1; have := HZ5.out; omega)).trans (hv.2 _ (by simp))
  case assign0 =>
   intro l x W K hK
   exact x.elim0
  case body0 =>
   rintro l pre x W hv hlt
   exact x.elim0
  case done0 =>
   rintro D ys W hD rfl hv hdef
   have cB := (hv.2.cell (p := ⟨w3_.heap.size, 0, none⟩) (by simp)).trans HC6.out
   have HD := Lib.hid hD
   have HDEF := Lib.hid hdef
   have HV := Lib.hid hv.1
   have hP := pick_walk none 0 [] W (Kd.C_nil _ _) (Nat.le_refl _) (Nat.zero_le _)
   have hres : r = ([], 6) := by
    rw [← HRES.out, HM0.out]
    rfl
   have HRE := Lib.hid hres
   clear hD hdef hv hres
   go_wp2_with fail
   refine hP.mono ?_
   clear hP
   rintro x W2 ⟨rfl, hb⟩
   obtain ⟨f1, f2, f3⟩ := cget_final (v := .slice none 0 0) (xs := []) (W2 := W2.alloc (.cells #[.int .i64 0, .int .i64 0] 59)) (Kd.R_nil _ _ _ _ _) HV.out (hb.alloc hb.size _) HDEF.out (by have := HD.out; have := HZ5.out; have := B3.out.size; omega)
   have HF1 := Lib.hid f1
   have HF2 := Lib.hid f2
   have HF3 := Lib.hid f3
   clear hb cB f1 f2 f3
   go_wp2
   refine ⟨by simp, .inl ⟨_, _, rfl, run_takeDeferred HF3.out, ?_⟩⟩
   refine ⟨_, results_tmp2 rfl _ _ _, ?_⟩
   rw [HRE.out]
   exact ⟨_, rfl, HF1.out, HF2.out⟩
  case stop0 =>
   rintro D c pre W _ _ h _
   exact h.elim
 ·
  obtain ⟨gx, kx, rfl, hgx1, hgx2, hkx1, hkx2, hcx⟩ := row_block hr (by rw [HXL.out]; omega)
  rw [HXL.out] at hkx1 hcx
  rw [HXL.out]
  have HM1 := Lib.hid (show 1 ≤ m by omega)
  have HGXL := Lib.hid (show gx < w3_.heap.size ∧ 3 * m ≤ kx ∧ kx ≤ maxLen from ⟨hgx2, hkx1, hkx2⟩)
  have HCX := Lib.hid hcx
  clear hr hb hgx1 hgx2 hkx1 hkx2 hcx hm0
  go_wp2_with fail
  have hch := chunk_calls (some ⟨gx, 0, none⟩) (3 * m) kx 3 (by decide) (by decide) (w3_.alloc (.cells #[.slice none 0 0] 54))
  refine hch.mono ?_
  clear hch
  rintro x w5 ⟨rfl, hw5⟩
  obtain ⟨P5, Q5, R5, S5, T5, U5⟩ := cget_begins w3_ m kx gx w.heap.size s X w5 HGXL.out.1 HCL.out HCS.out HCX.out hw5
  have HP5 := Lib.hid P5
  have HQ5 := Lib.hid Q5
  have HR5 := Lib.hid R5
  have HS5 := Lib.hid S5
  have HT5 := Lib.hid T5
  have HU5 := Lib.hid U5
  have hs4 : (w3_.alloc (.cells #[.slice none 0 0] 54)).heap.size = w3_.heap.size + 1 := by simp
  simp only [hs4]
  have HWB := Lib.hid (Nat.le_refl w3_.heap.size)
  have HB3 := Lib.hid (show w3_.heap.size < w5.heap.size by rw [T5]; omega)
  have HKS := Lib.hid (show ∀ k ∈ [w3_.heap.size + 1, w3_.heap.size + 1 + 1, gx, w.heap.size], k < w5.heap.size from fun k hk => by have := HGXL.out.1; have := HCL.out; rw [T5]; simp at hk; omega)
  have HNK := Lib.hid (show w3_.heap.size ∉ [w3_.heap.size + 1, w3_.heap.size + 1 + 1, gx, w.heap.size] from fun hk => by have := HGXL.out.1; have := HCL.out; simp at hk; omega)
  clear P5 Q5 R5 S5 T5 U5 hw5 hs4
  go_wp2_with fail
  refine (wpIn_wide (n := 9)).1 ?_
  refine wpIn_rangeFunc_ownG (F := Fence.wide) (n := 9) rfl (by decide) (gf := 51) (lb := #[.pointer (some ⟨w3_.heap.size + 1, 0, none⟩), .pointer (some ⟨w3_.heap.size + 1 + 1, 0, none⟩)]) rfl trivial (enters_of Try.func51 (by kernel_rfl) rfl)
   (chunk_stops 8 (w3_.heap.size + 1) (w3_.heap.size + 1 + 1) gx 3 m (3 * m) kx [w3_.heap.size + 1, w3_.heap.size + 1 + 1, gx, w.heap.size] w5 rfl (by decide) HM1.out (by have := HM.out; omega) HGXL.out.2.1 HGXL.out.2.2 (by simp) (by simp) (by have := HT5.out; omega) (by have := HT5.out; omega) HQ5.out HR5.out)
   (fun h k => h.trans k) (keepsB_b (fun k hk => by have := HT5.out; have := HGXL.out.1; have := HCL.out; simp at hk; omega)) (Below.refl _ _) (fun _ => rfl)
   (fun pre W => ∃ v, RowM w3_ w3_.heap.size [w3_.heap.size + 1, w3_.heap.size + 1 + 1, gx, w.heap.size] w5 W v ((pre.map (fun x => entX X x.1)).filter (mayM s)))
   (fun _ _ _ => False) ?hI (fun _ _ _ _ _ hs _ _ => hs) ⟨_, HP5.out⟩ ?a1 ?assign ?body ?done ?stop
  case hI => exact fun s A U row ⟨v, hv⟩ hg hr => ⟨v, hv.kept HWB.out HB3.out HKS.out hg hr⟩
  case assign =>
   intro l x W K hK
   gi_wp2
   exact hK
  case stop =>
   rintro D c pre W _ _ h _
   exact h.elim
  case body =>
   rintro l pre x W ⟨v, hv⟩ hlt
   have hx := x.2
   have ca := (hv.hK.cell (p := ⟨gx, 3 * x.1, none⟩) (by simp)).trans (HS5.out (3 * x.1) (by omega))
   have cb := (hv.hK.cell (p := ⟨gx, 3 * x.1 + 1, none⟩) (by simp)).trans (HS5.out (3 * x.1 + 1) (by omega))
   have cc := (hv.hK.cell (p := ⟨gx, 3 * x.1 + 2, none⟩) (by simp)).trans (HS5.out (3 * x.1 + 2) (by omega))
   have cd := (hv.hK.cell (p := ⟨w.heap.size, 0, none⟩) (by simp)).trans HU5.out
   obtain ⟨fa, hfa⟩ : ∃ fa, fa = rd X ((3 * x.1 : Nat) : Int) := ⟨_, rfl⟩
   obtain ⟨fb, hfb⟩ : ∃ fb, fb = rd X ((3 * x.1 + 1 : Nat) : Int) := ⟨_, rfl⟩
   obtain ⟨fc, hfc⟩ : ∃ fc, fc = rd X ((3 * x.1 + 2 : Nat) : Int) := ⟨_, rfl⟩
   rw [← hfa] at ca
   rw [← hfb] at cb
   rw [← hfc] at cc
   have HPM := Lib.hid (show entX X x.1 = ⟨bestP fa fb, fc⟩ by rw [hfa, hfb, hfc]; rfl)
   have HFC := Lib.hid (show 0 ≤ fc ∧ fc ≤ 4294967295 by rw [hfc, recs_rd s m X HX.out _ (by omega)]; exact recs_bd _ _ _)
   have HV := Lib.hid hv
   have HPL := Lib.hid hlt
   have HX2 := Lib.hid hx
   have HGW := Lib.hid (show gx < W.heap.size from Nat.lt_of_lt_of_le (HKS.out gx (by simp)) hv.hS)
   have HCD := Lib.hid cd
   clear hv hfa hfb hfc hlt hx cd
   gi_wp2_with fail
   refine start_in (m := 13) (S := fun u => u.cell? ⟨gx, 3 * x.1, none⟩ = some (.int .i64 fa) ∧ u.cell? ⟨gx, 3 * x.1 + 1, none⟩ = some (.int .i64 fb) ∧ u.cell? ⟨gx, 3 * x.1 + 2, none⟩ = some (.int .i64 fc)) (ds := []) #[false, false, false, false, false, false, false, false, false, false, false, false, false] (by kernel_rfl) rfl rfl (by kernel_rfl) (by rintro ⟨_, _, h⟩; exact h) ⟨ca, cb, cc⟩ (fun hHeld => ?_)
   clear ca cb cc
   obtain ⟨u0, hu0⟩ : ∃ u0, u0 = W.drew := ⟨_, rfl⟩
   have HU0 := Lib.hid (show Below W.heap.size W u0 by rw [hu0]; exact below_drew1 (Below.refl _ _))
   have HZ0 := Lib.hid (show u0.heap.size = W.heap.size by rw [hu0]; rfl)
   have HGL := Lib.hid (show gx < u0.heap.size by rw [hu0]; exact HGW.out)
   rw [← hu0] at hHeld ⊢
   clear hu0
   refine pS_ 0 52 ?_
   refine pS_ 1 53 ?_
   refine pS_ 3 55 ?_
   refine pS_ 4 56 ?_
   refine pS_ 7 59 ?_
   refine pS_ 8 60 ?_
   refine tS_ 2 54 hHeld ?_
   refine tS_ 5 57 hHeld ?_
   refine tS_ 9 61 hHeld ?_
   refine join_ (σ := Nat) 1 #[true, true, true, true, true, true, true, true, true, true, true, true, false] (fun F => [(58, .int .i64 (bestP fa fb)), (62, .agg #[.int .i64 (bestP fa fb), .int .i64 fc]), (9, .pointer (some ⟨F, 0, none⟩))]) (fun F w' => w'.heap[F]? = some (.cells #[.int .i64 0, .int .i64 0] 59 (0, 0)) ∧ Below u0.heap.size u0 w' ∧ u0.heap.size ≤ F) ?hc (fun hcont => ?_)
   rotate_left
   ·
    refine two_ (i := 6) (j := 11) (Ni := some 58) (Nj := some 9) #[true, true, true, true, true, true, true, true, true, true, false, false, false] #[true, true, true, true, true, true, false, true, true, true, false, true, false] rfl rfl rfl rfl (by kernel_rfl) (by decide) (by decide) (fun K hK => ?_) (fun K hK => ?_)
    ·
     refine call_ 12 #[.int .i64 fa, .int .i64 fb] (by rfl) rfl (by go_simp <;> rfl) ?_
     refine (cmap_Best.calls 20 fa fb (bestP fa fb) _ (best_told fa fb 20 (Nat.le_refl _))).mono ?_
     rintro e V1 ⟨rfl, hb1⟩
     refine ⟨_, rfl, ?_⟩
     have hK2 := hK.out
     clear hK
     have hH1 := (⟨(hb1.cell HGL.out).trans hHeld.1, (hb1.cell HGL.out).trans hHeld.2.1, (hb1.cell HGL.out).trans hHeld.2.2⟩ : V1.cell? ⟨gx, 3 * x.1, none⟩ = some (.int .i64 fa) ∧ V1.cell? ⟨gx, 3 * x.1 + 1, none⟩ = some (.int .i64 fb) ∧ V1.cell? ⟨gx, 3 * x.1 + 2, none⟩ = some (.int .i64 fc))
     refine hK2 _ _ hH1 (fun hHeldB => ?_)
     clear hK2
     refine nS_ ?_
     refine pS_ 10 62 ?_
     refine oS_ 11 9 (fun K hK => ?_)
     refine vS_ ?_
     refine hK.out _ _ ⟨cell_al _ hHeldB.1, cell_al _ hHeldB.2.1, cell_al _ hHeldB.2.2⟩ (fun hHeldC => ?_)
     clear hK K
     refine norm_ ?_ (hcont V1.heap.size _ ⟨heap_alloc_new _ _, hb1.alloc hb1.size _, hb1.size⟩)
     simp only [putAll, Act.put, List.setIfInBounds_toArray, List.set_cons_zero, List.set_cons_succ, i64_w, i32_w]
    ·
     refine vS_ ?_
     refine hK.out _ _ ⟨cell_al _ hHeld.1, cell_al _ hHeld.2.1, cell_al _ hHeld.2.2⟩ (fun hHeldB => ?_)
     clear hK K
     refine nS_ ?_
     refine oS_ 6 58 (fun K hK => ?_)
     refine call_ 12 #[.int .i64 fa, .int .i64 fb] (by rfl) rfl (by go_simp <;> rfl) ?_
     refine (cmap_Best.calls 20 fa fb (bestP fa fb) _ (best_told fa fb 20 (Nat.le_refl _))).mono ?_
     rintro e V1 ⟨rfl, hb1⟩
     refine ⟨_, rfl, ?_⟩
     have hK2 := hK.out
     clear hK
     have hb2 : Below u0.heap.size u0 V1 := ((Below.refl _ u0).alloc (Nat.le_refl _) _).trans (hb1.mono (by simp))
     have hH1 := (⟨(hb2.cell HGL.out).trans hHeld.1, (hb2.cell HGL.out).trans hHeld.2.1, (hb2.cell HGL.out).trans hHeld.2.2⟩ : V1.cell? ⟨gx, 3 * x.1, none⟩ = some (.int .i64 fa) ∧ V1.cell? ⟨gx, 3 * x.1 + 1, none⟩ = some (.int .i64 fb) ∧ V1.cell? ⟨gx, 3 * x.1 + 2, none⟩ = some (.int .i64 fc))
     refine hK2 _ _ hH1 (fun hHeldC => ?_)
     clear hK2
     refine nS_ ?_
     refine pS_ 10 62 ?_
     refine norm_ ?_ (hcont u0.heap.size _ ⟨(hb1.block _ (by simp)).trans (heap_alloc_new _ _), hb2, Nat.le_refl _⟩)
     simp only [putAll, Act.put, List.setIfInBounds_toArray, List.set_cons_zero, List.set_cons_succ, i64_w, i32_w]
   rintro F V1 ⟨hF, hb1, hge⟩
   refine norm_ (a' := ?_) ?_ ?_
   rotate_left
   ·
    simp only [putAll, Act.put, List.setIfInBounds_toArray, List.set_cons_zero, List.set_cons_succ, i64_w, i32_w]
    rfl
   refine oN_ 12 (fun K hK => ?_)
   refine skip_ (w1 := (V1.setCell ⟨F, 0, none⟩ (.int .i64 (bestP fa fb))).setCell ⟨F, 1, none⟩ (.int .i64 fc)) (by rfl) rfl ?_ ?_
   · exact store2_run _ _ rfl rfl rfl hF
   have hb2 : Below u0.heap.size u0 ((V1.setCell ⟨F, 0, none⟩ (.int .i64 (bestP fa fb))).setCell ⟨F, 1, none⟩ (.int .i64 fc)) := (hb1.setCell hge _).setCell hge _
   have HUF := Lib.hid (put2_block hF (.int .i64 (bestP fa fb)) (.int .i64 fc))
   refine hK.out _ _ ⟨(hb2.cell HGL.out).trans hHeld.1, (hb2.cell HGL.out).trans hHeld.2.1, (hb2.cell HGL.out).trans hHeld.2.2⟩ (fun hHeld2 => ?_)
   clear hK K
   refine dS_ ?_
   obtain ⟨U, hU⟩ : ∃ U, U = (V1.setCell ⟨F, 0, none⟩ (.int .i64 (bestP fa fb))).setCell ⟨F, 1, none⟩ (.int .i64 fc) := ⟨_, rfl⟩
   rw [← hU] at hb2 HUF ⊢
   have HBU := Lib.hid (show Below W.heap.size W U from HU0.out.trans (hb2.mono (by rw [HZ0.out]; exact Nat.le_refl _)))
   have HFG := Lib.hid (show W.heap.size ≤ F by rw [← HZ0.out]; exact hge)
   clear hU hF hb1 hge hb2 hHeld hHeld2 HU0 HZ0 HGL
   have hcd := (HBU.out.cell (World.block_lt_of_cell? _ _ HCD.out)).trans HCD.out
   have z0 : U.cell? ⟨F, 0, none⟩ = some (.int .i64 (bestP fa fb)) := (blk_cell HUF.out 0).trans rfl
   have z1 : U.cell? ⟨F, 1, none⟩ = some (.int .i64 fc) := (blk_cell HUF.out 1).trans rfl
   obtain ⟨bp, hbp⟩ : ∃ bp, bp = bestP fa fb := ⟨_, rfl⟩
   rw [← hbp] at z0 HUF HPM ⊢
   have HSKIP := Lib.hid (show ∀ U', Below W.heap.size W U' → mayM s ⟨bp, fc⟩ = false → KeepsFrom w5.heap.size W U' ∧ KeepsB [w3_.heap.size + 1, w3_.heap.size + 1 + 1, gx, w.heap.size] W U' ∧ ∃ v, RowM w3_ w3_.heap.size [w3_.heap.size + 1, w3_.heap.size + 1 + 1, gx, w.heap.size] w5 U' v (((pre ++ [x]).map (fun x => entX X x.1)).filter (mayM s)) from
    fun U' hb hm => ⟨keepsFrom_below hb, fun k hk => hb.block k (Nat.lt_of_lt_of_le (HKS.out k hk) HV.out.hS), v, by rw [may_snoc, HPM.out, hm, if_neg Bool.false_ne_true, List.append_nil]; exact HV.out.below HKS.out hb⟩)
   obtain ⟨Y, e9, hy⟩ : ∃ Y e9, getN s fc [2] = (Y, e9) := ⟨_, _, rfl⟩
   have HY := Lib.hid hy
   clear hbp hy
   gi_wp2_with fail
   refine ⟨trivial, CallsIn.inRound _ (callsIn_wide.2 ?_)⟩
   have D1 := lit_C U [2] (by decide)
   refine (bin_Get.calls s fc _ 1 [2] Y e9 _ D1 (Nat.le_refl _) (by unfold bin_Get.f; rw [if_pos (by decide), HY.out])).mono ?_
   rintro e U2 ⟨v2, rfl, hr2, hb2⟩
   have hbu : Below U.heap.size U U2 := (below_alloc (Below.refl U.heap.size U) _).trans (hb2.mono (by simp))
   have HB2 := Lib.hid (HBU.out.trans (hbu.mono HBU.out.size))
   have y0 := (hbu.cell (World.block_lt_of_cell? _ _ z0)).trans z0
   have HF2 := Lib.hid ((hbu.block F (blk_lt HUF.out)).trans HUF.out)
   obtain ⟨pp, hpp⟩ := Int.eq_ofNat_of_zero_le HFC.out.1
   have hone := get_one s pp
   rw [← hpp, HY.out] at hone
   have HONE := Lib.hid hone
   have HPP := Lib.hid hpp
   clear hb2 hbu D1 hcd z0 z1 hone hpp HUF
   by_cases h0 : bp = 0
   ·
    have d5 : (bp == 0) = true := by rw [h0]; rfl
    obtain ⟨A9, k9, rfl⟩ := Kd.R_slice hr2
    have HM0 := Lib.hid (show mayM s ⟨bp, fc⟩ = false by unfold mayM; rw [h0]; rfl)
    clear h0 hr2
    gi_wp2
    exact HSKIP.out _ HB2.out HM0.out
   have d5 : (bp == 0) = false := by simpa using h0
   by_cases hsp : pp + 2 ≤ s.size
   case neg =>
    rw [if_neg hsp] at HONE
    obtain ⟨rfl, rfl⟩ := Prod.mk.inj HONE.out
    obtain ⟨A9, k9, rfl⟩ := Kd.R_slice hr2
    have HM0 := Lib.hid (show mayM s ⟨bp, fc⟩ = false by unfold mayM; dsimp only; rw [HPP.out, Int.toNat_natCast, decide_eq_false hsp]; simp)
    clear h0 hr2 hsp
    gi_wp2
    exact HSKIP.out _ HB2.out HM0.out
   rw [if_pos hsp] at HONE
   obtain ⟨hY, rfl⟩ := Prod.mk.inj HONE.out
   have HMAY := Lib.hid (show mayM s ⟨bp, fc⟩ = isFmt (w2 s pp) by unfold mayM; dsimp only; rw [HPP.out, Int.toNat_natCast, decide_eq_true hsp, decide_eq_true h0]; simp)
   obtain ⟨f9, hf9⟩ : ∃ f9, f9 = w2 s pp := ⟨_, rfl⟩
   rw [← hf9] at HMAY hY
   subst hY
   obtain ⟨ga, k9, rfl, hga1, hga2, _, _, hcy⟩ := row_block hr2 (by simp)
   have hlen9 : ([f9] : List Int).length = 1 := rfl
   rw [hlen9] at hcy ⊢
   have cy : U2.cell? ⟨ga, 0, none⟩ = some (.int .i64 f9) := (hcy 0 (by decide)).trans rfl
   have HGA := Lib.hid hga2
   obtain ⟨v0, vf, fa_, fb_, ho0, ho1, hlk⟩ := look_form f9
   have HO0 := Lib.hid ho0
   have HO1 := Lib.hid ho1
   have HLK := Lib.hid hlk
   clear h0 hsp hf9 hr2 hga1 hga2 hcy hlen9 ho0 ho1 hlk
   gi_wp2_with fail
   refine start_in (m := 11) (S := fun u => u.cell? ⟨ga, 0, none⟩ = some (.int .i64 f9)) (ds := []) #[false, false, false, false, false, false, false, false, false, false, false] (by kernel_rfl) rfl rfl (by kernel_rfl) (by rintro ⟨_, _, h⟩; exact h) cy (fun hHeld => ?_)
   clear cy y0
   obtain ⟨u1, hu1⟩ : ∃ u1, u1 = U2.drew := ⟨_, rfl⟩
   have HU1 := Lib.hid (show Below U2.heap.size U2 u1 by rw [hu1]; exact below_drew1 (Below.refl _ _))
   have HZ1 := Lib.hid (show u1.heap.size = U2.heap.size by rw [hu1]; rfl)
   have HGL := Lib.hid (show ga < u1.heap.size by rw [hu1]; exact HGA.out)
   rw [← hu1] at hHeld ⊢
   clear hu1
   refine pS_ 1 80 ?_
   refine pS_ 2 81 ?_
   refine tS_ 3 82 hHeld ?_
   refine join_ (σ := Nat × Nat × Nat × Nat) 2 #[true, true, true, true, true, true, true, true, true, false, false] (fun q => [(79, .map (some q.1)), (83, Value.tuple #[.agg #[v0, vf q.2.1 q.2.2.1, .int .i64 fa_, .int .i64 fb_], .bool (isFmt f9)]), (78, Value.tuple #[.agg #[v0, vf q.2.1 q.2.2.1, .int .i64 fa_, .int .i64 fb_], .bool (isFmt f9)]), (84, .agg #[v0, vf q.2.1 q.2.2.1, .int .i64 fa_, .int .i64 fb_]), (85, .bool (isFmt f9)), (12, .pointer (some ⟨q.2.2.2, 0, none⟩))]) (fun q w' => w'.heap[q.2.2.2]? = some (.cells #[.nilFunc, .nilFunc, .int .i64 0, .int .i64 0] 43 (0, 0)) ∧ Below u1.heap.size u1 w' ∧ u1.heap.size ≤ q.2.2.2) ?hc2 (fun hcont => ?_)
   rotate_left
   ·
    refine two_ (i := 0) (j := 8) (Ni := some 79) (Nj := some 12) #[true, true, true, true, false, false, false, false, false, false, false] #[false, true, true, true, false, false, false, false, true, false, false] rfl rfl rfl rfl (by kernel_rfl) (by decide) (by decide) (fun K hK => ?_) (fun K hK => ?_)
    ·
     refine call_ 20 #[] (by rfl) rfl (by go_simp <;> rfl) ?_
     refine (formats_calls _).mono ?_
     rintro e V1 ⟨hb1, bm, m1, m2, hbm, rfl, hF1⟩
     refine ⟨_, rfl, ?_⟩
     have hK2 := hK.out
     clear hK
     have hH1 := (hb1.cell HGL.out).trans hHeld
     refine hK2 _ _ hH1 (fun hHeldB => ?_)
     clear hK2
     refine nS_ ?_
     refine two_ (i := 4) (j := 8) (Ni := some 83) (Nj := some 12) #[true, true, true, true, true, false, false, false, false, false, false] #[true, true, true, true, false, false, false, false, true, false, false] rfl rfl rfl rfl (by kernel_rfl) (by decide) (by decide) (fun K hK => ?_) (fun K hK => ?_)
     ·
      refine value_ (w1 := V1) (v := .tuple #[.agg #[v0, vf m1 m2, .int .i64 fa_, .int .i64 fb_], .bool (isFmt f9)]) (by rfl) rfl (lookop_run rfl rfl rfl (HLK.out _ bm m1 m2 hF1)) ?_
      refine hK.out _ _ hHeldB (fun hHeldC => ?_)
      clear hK K
      refine nS_ ?_
      refine pS_ 5 78 ?_
      refine pS_ 6 84 ?_
      refine pS_ 7 85 ?_
      refine oS_ 8 12 (fun K hK => ?_)
      refine vS_ ?_
      refine hK.out _ _ (cell_al _ hHeldC) (fun hHeldD => ?_)
      clear hK K
      refine norm_ ?_ (hcont (bm, m1, m2, V1.heap.size) _ ⟨heap_alloc_new _ _, hb1.alloc hb1.size _, hb1.size⟩)
      simp only [putAll, Act.put, List.setIfInBounds_toArray, List.set_cons_zero, List.set_cons_succ, i64_w, i32_w]
     ·
      refine vS_ ?_
      refine hK.out _ _ (cell_al _ hHeldB) (fun hHeldC => ?_)
      clear hK K
      refine nS_ ?_
      refine oS_ 4 83 (fun K hK => ?_)
      refine value_ (w1 := _) (v := .tuple #[.agg #[v0, vf m1 m2, .int .i64 fa_, .int .i64 fb_], .bool (isFmt f9)]) (by rfl) rfl (lookop_run rfl rfl rfl (HLK.out _ bm m1 m2 (hF1.below ((Below.refl _ V1).alloc (Nat.le_refl _) _)))) ?_
      refine hK.out _ _ hHeldC (fun hHeldD => ?_)
      clear hK K
      refine nS_ ?_
      refine pS_ 5 78 ?_
      refine pS_ 6 84 ?_
      refine pS_ 7 85 ?_
      refine norm_ ?_ (hcont (bm, m1, m2, V1.heap.size) _ ⟨heap_alloc_new _ _, hb1.alloc hb1.size _, hb1.size⟩)
      simp only [putAll, Act.put, List.setIfInBounds_toArray, List.set_cons_zero, List.set_cons_succ, i64_w, i32_w]
    ·
     refine vS_ ?_
     refine hK.out _ _ (cell_al _ hHeld) (fun hHeldB => ?_)
     clear hK K
     refine nS_ ?_
     refine oS_ 0 79 (fun K hK => ?_)
     refine call_ 20 #[] (by rfl) rfl (by go_simp <;> rfl) ?_
     refine (formats_calls _).mono ?_
     rintro e V1 ⟨hb1, bm, m1, m2, hbm, rfl, hF1⟩
     refine ⟨_, rfl, ?_⟩
     have hK2 := hK.out
     clear hK
     have hb2 : Below u1.heap.size u1 V1 := ((Below.refl _ u1).alloc (Nat.le_refl _) _).trans (hb1.mono (by simp))
     have hH1 := (hb2.cell HGL.out).trans hHeld
     refine hK2 _ _ hH1 (fun hHeldC => ?_)
     clear hK2
     refine nS_ ?_
     refine oS_ 4 83 (fun K hK => ?_)
     refine value_ (w1 := V1) (v := .tuple #[.agg #[v0, vf m1 m2, .int .i64 fa_, .int .i64 fb_], .bool (isFmt f9)]) (by rfl) rfl (lookop_run rfl rfl rfl (HLK.out _ bm m1 m2 hF1)) ?_
     refine hK.out _ _ hHeldC (fun hHeldD => ?_)
     clear hK K
     refine nS_ ?_
     refine pS_ 5 78 ?_
     refine pS_ 6 84 ?_
     refine pS_ 7 85 ?_
     refine norm_ ?_ (hcont (bm, m1, m2, u1.heap.size) _ ⟨(hb1.block _ (by simp)).trans (heap_alloc_new _ _), hb2, Nat.le_refl _⟩)
     simp only [putAll, Act.put, List.setIfInBounds_toArray, List.set_cons_zero, List.set_cons_succ, i64_w, i32_w]
   rintro ⟨bm, m1, m2, F9⟩ V1 ⟨hF9, hb1, hge⟩
   dsimp only at hF9 hge
   refine norm_ (a' := ?_) ?_ ?_
   rotate_left
   ·
    simp only [putAll, Act.put, List.setIfInBounds_toArray, List.set_cons_zero, List.set_cons_succ, i64_w, i32_w]
    rfl
   refine oN_ 9 (fun K hK => ?_)
   refine skip_ (w1 := (((V1.setCell ⟨F9, 0, none⟩ v0).setCell ⟨F9, 1, none⟩ (vf m1 m2)).setCell ⟨F9, 2, none⟩ (.int .i64 fa_)).setCell ⟨F9, 3, none⟩ (.int .i64 fb_)) (by rfl) rfl ?_ ?_
   · exact store4_run v0 (vf m1 m2) fa_ fb_ HO0.out (HO1.out m1 m2) rfl rfl rfl hF9
   have hb2 : Below u1.heap.size u1 ((((V1.setCell ⟨F9, 0, none⟩ v0).setCell ⟨F9, 1, none⟩ (vf m1 m2)).setCell ⟨F9, 2, none⟩ (.int .i64 fa_)).setCell ⟨F9, 3, none⟩ (.int .i64 fb_)) := (((hb1.setCell hge _).setCell hge _).setCell hge _).setCell hge _
   refine hK.out _ _ ((hb2.cell HGL.out).trans hHeld) (fun hHeld2 => ?_)
   clear hK K
   refine pS_ 10 13 ?_
   refine dS_ ?_
   obtain ⟨U3, hU3⟩ : ∃ U3, U3 = (((V1.setCell ⟨F9, 0, none⟩ v0).setCell ⟨F9, 1, none⟩ (vf m1 m2)).setCell ⟨F9, 2, none⟩ (.int .i64 fa_)).setCell ⟨F9, 3, none⟩ (.int .i64 fb_) := ⟨_, rfl⟩
   rw [← hU3] at hb2 ⊢
   have hb3 : Below U2.heap.size U2 U3 := HU1.out.trans (hb2.mono (by rw [HZ1.out]; exact Nat.le_refl _))
   have HB3_ := Lib.hid (HB2.out.trans (hb3.mono HB2.out.size))
   have HF3 := Lib.hid ((hb3.block F (blk_lt HF2.out)).trans HF2.out)
   clear hU3 hF9 hb1 hge hb2 hb3 hHeld hHeld2 HU1 HZ1 HGL HF2
   cases hfm : isFmt f9 with
   | false =>
    have HM0 := Lib.hid (show mayM s ⟨bp, fc⟩ = false by rw [HMAY.out, hfm])
    clear hfm
    gi_wp2
    exact HSKIP.out _ HB3_.out HM0.out
   | true =>
    have HM0 := Lib.hid (show mayM s ⟨bp, fc⟩ = true by rw [HMAY.out, hfm])
    obtain ⟨xs, hxs⟩ : ∃ xs, xs = (pre.map (fun x => entX X x.1)).filter (mayM s) := ⟨_, rfl⟩
    have HXL2 := Lib.hid (show xs.length ≤ 64 by rw [hxs]; have := may_len s X pre; have := HPL.out; have := HM.out.2; omega)
    rw [← hxs] at HV
    have HVU := Lib.hid (HV.out.below HKS.out HB3_.out)
    have HSN := Lib.hid (show ((pre ++ [x]).map (fun x => entX X x.1)).filter (mayM s) = xs ++ [⟨bp, fc⟩] by rw [may_snoc, HPM.out, HM0.out, if_pos rfl, hxs])
    have cv := HVU.out.c
    have z0 : U3.cell? ⟨F, 0, none⟩ = some (.int .i64 bp) := (blk_cell HF3.out 0).trans rfl
    have z1 : U3.cell? ⟨F, 1, none⟩ = some (.int .i64 fc) := (blk_cell HF3.out 1).trans rfl
    obtain ⟨Av, kv, rfl⟩ := Kd.R_slice HVU.out.r
    clear hfm hxs
    gi_wp2_with (gi_at_builtin; go_loud (refine append_in (by kernel_rfl) (by rfl) (?_ : if _ then _ else _); refine Kd.R_append_step k41 (w0 := w3_) w3_.heap.size (by rfl) (.tmp 87) (.tmp 89) 54 59 (.agg #[(.int .i64 0), (.int .i64 0)]) 16 rfl Try.underlying54 infoE rfl (by decide) (by decide) _ xs ⟨bp, fc⟩ [.int .i64 bp, .int .i64 fc] (fun k => w5.heap.size ≤ k) (fun _ => False) rfl rfl (k41_mkM _ _ _ ⟨bp, fc⟩) (fun _ hk => hk.elim) (fun k hk => Nat.le_trans HVU.out.hS hk) HVU.out.r HVU.out.hB HVU.out.hB.size (ent_bytes HXL2.out) ?_))
    intro v1 u2 ho hb hg hat
    obtain ⟨A1, k1, rfl⟩ := Kd.R_slice ho
    have eL : (xs ++ [(⟨bp, fc⟩ : S41)]).length = xs.length + 1 := by simp
    rw [eL] at ho hat ⊢
    obtain ⟨c1, zz, G1, G2, G3⟩ := HVU.out.grew HWB.out HB3.out HKS.out HNK.out ho hb hg
    have HG1 := Lib.hid G1
    have HG2 := Lib.hid (show KeepsB [w3_.heap.size + 1, w3_.heap.size + 1 + 1, gx, w.heap.size] W _ from fun k hk => (G2 k hk).trans (HB3_.out.block k (Nat.lt_of_lt_of_le (HKS.out k hk) HV.out.hS)))
    have HG3 := Lib.hid (show KeepsFrom w5.heap.size W _ from RowM.keepsFrom HB3.out (fun k o hk ho hn => G3 k o ((HB3_.out.block k (Array.getElem?_eq_some_iff.1 hk).1).trans hk) ho hn) (Nat.le_trans HB3_.out.size (by have := hg.size; simpa using this)))
    clear ho hb hg hat G1 G2 G3 cv z0 z1 eL
    gi_wp2
    exact ⟨HG3.out, HG2.out, _, by rw [HSN.out]; exact HG1.out⟩
  case done =>
   rintro D ys W hD rfl ⟨v, hv⟩ hdef
   have htr := recs_told s m X HX.out
   rw [htr] at hv
   have hen : ((List.range m).map (entM s)).filter (mayM s) = entsM s m := rfl
   rw [hen] at hv
   obtain ⟨xs, hxs⟩ : ∃ xs, xs = entsM s m := ⟨_, rfl⟩
   rw [← hxs] at hv HRES
   have hxl : xs.length ≤ 64 := by
    rw [hxs]
    unfold entsM
    refine Nat.le_trans (List.length_filter_le _ _) ?_
    rw [List.length_map, List.length_range]
    exact HM.out.2
   obtain ⟨A7, k7, hA7⟩ := Kd.R_slice hv.r
   subst hA7
   obtain ⟨_, _, e0, hk7, C7⟩ := Kd.R_reads hv.r
   injection e0 with e5 e6 e7
   subst e5
   subst e7
   have cB := hv.c
   have cS := (hv.hK.cell (p := ⟨w.heap.size, 0, none⟩) (by simp)).trans HU5.out
   have HV := Lib.hid (B3.out.trans (hv.hB.mono B3.out.size))
   have HD := Lib.hid hD
   have HDEF := Lib.hid hdef
   have hP := pick_walk A7 k7 xs W C7 hk7 (by omega)
   obtain ⟨⟨b0, b1⟩, bb, hbe⟩ : ∃ x b, bestS xs = (x, b) := ⟨_, _, rfl⟩
   rw [hbe] at hP HRES
   have HBE := Lib.hid (show bestS (entsM s m) = (⟨b0, b1⟩, bb) by rw [← hxs]; exact hbe)
   clear hD hdef hv htr hen hxs hxl C7 hk7 e6 hbe
   go_wp2_with fail
   refine hP.mono ?_
   clear hP
   rintro x W2 ⟨rfl, hb⟩
   have cS2 := (hb.cell (World.block_lt_of_cell? _ _ cS)).trans cS
   have HW2 := Lib.hid (show Below W.heap.size W (W2.alloc (.cells #[.int .i64 b0, .int .i64 b1] 59)) from hb.alloc hb.size _)
   have HCS2 := Lib.hid (cell_al (.cells #[.int .i64 b0, .int .i64 b1] 59) cS2)
   clear hb cB cS cS2
   cases bb with
   | false =>
    have hres : r = ([], 6) := HRES.out.symm
    have HRE := Lib.hid hres
    obtain ⟨f1, f2, f3⟩ := cget_final (v := .slice none 0 0) (xs := []) (Kd.R_nil _ _ _ _ _) HV.out HW2.out HDEF.out (by have := HD.out; have := HT5.out; have := B3.out.size; omega)
    have HF1 := Lib.hid f1
    have HF2 := Lib.hid f2
    have HF3 := Lib.hid f3
    clear f1 f2 f3 hres
    go_wp2
    refine ⟨by simp, .inl ⟨_, _, rfl, run_takeDeferred HF3.out, ?_⟩⟩
    refine ⟨_, results_tmp2 rfl _ _ _, ?_⟩
    rw [HRE.out]
    exact ⟨_, rfl, HF1.out, HF2.out⟩
   | true =>
    have hres : readM (s.extract b1.toNat s.size) = r := HRES.out
    obtain ⟨p0, p1⟩ := best_at HBE.out
    obtain ⟨at_, hat⟩ := Int.eq_ofNat_of_zero_le p0
    dsimp only at hat p1
    subst hat
    rw [Int.toNat_natCast] at hres p1
    have hle := eq_true (show at_ ≤ s.size by omega)
    obtain ⟨L, e, hL⟩ : ∃ L e, readM (s.extract at_ s.size) = (L, e) := ⟨_, _, rfl⟩
    rw [hL] at hres
    have HRE := Lib.hid hres
    have HL := Lib.hid hL
    clear hres p0 p1 hL
    have hcs2 := HCS2.out
    go_wp2_with fail
    refine (cmap_Read.calls (s.extract at_ s.size) L e _ (by unfold cmap_Read.f; rw [HL.out])).mono ?_
    rintro x W4 ⟨v, rfl, hr4, hb4⟩
    obtain ⟨A8, k8, rfl⟩ := Kd.R_slice hr4
    obtain ⟨f1, f2, f3⟩ := cget_final (Kd.R_lower hr4 (Nat.le_trans HV.out.size HW2.out.size)) HV.out (HW2.out.trans (hb4.mono HW2.out.size)) HDEF.out (by have := HD.out; have := HT5.out; have := B3.out.size; omega)
    have HF1 := Lib.hid f1
    have HF2 := Lib.hid f2
    have HF3 := Lib.hid f3
    clear hr4 hb4 f1 f2 f3 hcs2 hle
    go_wp2
    refine ⟨by simp, .inl ⟨_, _, rfl, run_takeDeferred HF3.out, ?_⟩⟩
    refine ⟨_, results_tmp2 rfl _ _ _, ?_⟩
    rw [← HRE.out]
    exact ⟨_, rfl, HF1.out, HF2.out⟩
def cmap_Get.f (a0 : ByteArray) : Option (List S50 × Int) := some (getM a0)
theorem cmap_Get.calls (a0 : ByteArray) (r1 : List S50) (r2 : Int) (w : World) (h : cmap_Get.f a0 = some (r1, r2)) :
  Calls Try.prog 9 #[.string a0] w fun e w' => ∃ v0_ : Value, e = .returned (.tuple #[v0_, .int .i64 r2]) ∧ Kd.R k50 50 w' w.heap.size (fun _ => True) v0_ r1 ∧ Below w.heap.size w w' := by
 have hr : getM a0 = (r1, r2) := Option.some.inj h
 by_cases h4 : a0.size < 4
 ·
  have he : getM a0 = ([], 4) := by unfold getM; rw [if_pos h4]
  rw [he] at hr
  obtain ⟨rfl, rfl⟩ := Prod.mk.inj hr
  exact cget_short a0 w h4
 have h4 : 4 ≤ a0.size := by omega
 by_cases h0 : w2 a0 0 = 0
 case neg => exact cget_form a0 w h4 h0 (r1, r2) (by rw [← hr, getM_form h4 h0])
 by_cases hl : 64 < w2 a0 2
 · exact cget_long a0 w h4 h0 hl (r1, r2) (by rw [← hr, getM_long h4 h0 hl])
 obtain ⟨m, hm⟩ := Int.eq_ofNat_of_zero_le (w2_bd a0 2).1
 exact cget_main a0 w h4 h0 m hm (by omega) (r1, r2) hr
end Go.Proofs.Ytejdflndgnpkcaa.P
end
section
namespace Go.Proofs.Ytejdflndgnpkcaa.P
open Go.RowKit Go.Proofs.YtejdflndgnpkcaaW.PrintWords Go.Proofs.YtejdflndgnpkcaaW.PrintLast Go.Proofs.YtejdflndgnpkcaaW.PrintMore
attribute [local go_sem] max2_int min2_int max_two min_two max_three min_three max_four min_four
def cmap_Glyph.f (l0 : List (S50)) (a1 : Int) (a2 : Int) : Option (Int × Int) := (chart_Is.f l0).bind fun t231 => (if t231 = true then ((chart_Look.f l0 a1).bind fun t232 => (if t232 = 0 then (some (0, 10)) else (if t232 ≥ a2 then (some (0, 10)) else (some (t232, 0))))) else (some (0, 1)))
set_option maxHeartbeats 8000000 in
set_option maxRecDepth 100000 in
theorem cmap_Glyph.calls (A0 : Option Addr) (c0 : Nat) (l0 : List (S50)) (a1 : Int) (a2 : Int) (r1 : Int) (r2 : Int) (w : World) (hr0 : Kd.C k50 w A0 l0.length l0) (hc0 : l0.length ≤ c0) (h : cmap_Glyph.f l0 a1 a2 = some (r1, r2)) :
  Calls Try.prog 10 #[.slice A0 l0.length c0, .int .i64 a1, .int .i64 a2] w fun e w' => e = .returned (.tuple #[.int .i64 r1, .int .i64 r2]) ∧ Below w.heap.size w w' := by
 have HR0 := Aside0.mk hr0
 have HC0 := Aside0.mk hc0
 clear hr0 hc0
 have HB := Aside0.mk (Below.refl w.heap.size w)
 have H : ((chart_Is.f l0).bind fun t231 => (if t231 = true then ((chart_Look.f l0 a1).bind fun t232 => (if t232 = 0 then (some (0, 10)) else (if t232 ≥ a2 then (some (0, 10)) else (some (t232, 0))))) else (some (0, 1)))) = some (r1, r2) := h
 clear h
 replace H := Option.bind_eq_some_iff.mp H
 obtain ⟨t231, A40, H⟩ := H
 try dsimp only at H
 have A4 := Aside0.mk A40
 clear A40
 by_cases c5 : t231 = true
 ·
  subst c5
  rw [if_pos rfl] at H
  replace H := Option.bind_eq_some_iff.mp H
  obtain ⟨t232, A60, H⟩ := H
  try dsimp only at H
  have A6 := Aside0.mk A60
  clear A60
  by_cases c7 : t232 = 0
  ·
   rw [if_pos c7] at H
   have c7b0 : (t232 == 0) = true := beq_iff_eq.mpr c7
   have c7b1 : (t232 != 0) = false := bne_eq_false_iff_eq.mpr c7
   clear c7
   simp only [Option.some.injEq, Prod.mk.injEq] at H
   obtain ⟨rfl, rfl⟩ := H
   go_enter Try.func10, Try.ntmps10
   go_wp2_with (first | ((with_reducible refine gate_callee (f := 15) rfl ?_); refine gL_ 10 Try.func15 #[.slice A0 l0.length c0] ?_; (with_reducible refine (chart_Is.calls _ _ l0 true _ ?side1 ?side2 A4.out).mono ?_); (case side1 => exact cA HR0.out); (case side2 => exact HC0.out); rintro e w8 ⟨rfl, hb⟩; refine ⟨_, rfl, ?_⟩; have n0_ := Aside0.mk (below_step bA hb); clear HB; have HB := n0_; clear n0_; (try clear hb)) | ((with_reducible refine gate_callee (f := 16) rfl ?_); refine gL_ 14 Try.func16 #[.slice A0 l0.length c0, .int .i64 a1] ?_; (with_reducible refine (chart_Look.calls _ _ l0 a1 t232 _ ?side1 ?side2 A6.out).mono ?_); (case side1 => repeat (first | exact (Kd.C_below HR0.out HB.out) | (with_reducible refine Kd.C_alloc ?_ _) | (with_reducible refine Kd.C_drewN ?_ _) | (with_reducible refine Kd.C_drew ?_))); (case side2 => exact HC0.out); rintro e w9 ⟨rfl, hb⟩; refine ⟨_, rfl, ?_⟩; have n0_ := Aside0.mk (below_step bA hb); clear HB; have HB := n0_; clear n0_; (try clear hb)))
   go_ret2
   exact ⟨eA, bA⟩
  ·
   rw [if_neg c7] at H
   have c7b0 : (t232 == 0) = false := beq_eq_false_iff_ne.mpr c7
   have c7b1 : (t232 != 0) = true := bne_iff_ne.mpr c7
   by_cases c10 : t232 ≥ a2
   ·
    rw [if_pos c10] at H
    have c10b0 : decide (a2 ≤ t232) = true := decide_eq_true c10
    clear c10
    simp only [Option.some.injEq, Prod.mk.injEq] at H
    obtain ⟨rfl, rfl⟩ := H
    go_enter Try.func10, Try.ntmps10
    go_wp2_with (first | ((with_reducible refine gate_callee (f := 15) rfl ?_); refine gL_ 10 Try.func15 #[.slice A0 l0.length c0] ?_; (with_reducible refine (chart_Is.calls _ _ l0 true _ ?side1 ?side2 A4.out).mono ?_); (case side1 => exact cA HR0.out); (case side2 => exact HC0.out); rintro e w11 ⟨rfl, hb⟩; refine ⟨_, rfl, ?_⟩; have n0_ := Aside0.mk (below_step bA hb); clear HB; have HB := n0_; clear n0_; (try clear hb)) | ((with_reducible refine gate_callee (f := 16) rfl ?_); refine gL_ 14 Try.func16 #[.slice A0 l0.length c0, .int .i64 a1] ?_; (with_reducible refine (chart_Look.calls _ _ l0 a1 t232 _ ?side1 ?side2 A6.out).mono ?_); (case side1 => repeat (first | exact (Kd.C_below HR0.out HB.out) | (with_reducible refine Kd.C_alloc ?_ _) | (with_reducible refine Kd.C_drewN ?_ _) | (with_reducible refine Kd.C_drew ?_))); (case side2 => exact HC0.out); rintro e w12 ⟨rfl, hb⟩; refine ⟨_, rfl, ?_⟩; have n0_ := Aside0.mk (below_step bA hb); clear HB; have HB := n0_; clear n0_; (try clear hb)))
    go_ret2
    exact ⟨eA, bA⟩
   ·
    rw [if_neg c10] at H
    have c10b0 : decide (a2 ≤ t232) = false := decide_eq_false c10
    clear c10
    simp only [Option.some.injEq, Prod.mk.injEq] at H
    obtain ⟨rfl, rfl⟩ := H
    go_enter Try.func10, Try.ntmps10
    go_wp2_with (first | ((with_reducible refine gate_callee (f := 15) rfl ?_); refine gL_ 10 Try.func15 #[.slice A0 l0.length c0] ?_; (with_reducible refine (chart_Is.calls _ _ l0 true _ ?side1 ?side2 A4.out).mono ?_); (case side1 => exact cA HR0.out); (case side2 => exact HC0.out); rintro e w13 ⟨rfl, hb⟩; refine ⟨_, rfl, ?_⟩; have n0_ := Aside0.mk (below_step bA hb); clear HB; have HB := n0_; clear n0_; (try clear hb)) | ((with_reducible refine gate_callee (f := 16) rfl ?_); refine gL_ 14 Try.func16 #[.slice A0 l0.length c0, .int .i64 a1] ?_; (with_reducible refine (chart_Look.calls _ _ l0 a1 t232 _ ?side1 ?side2 A6.out).mono ?_); (case side1 => repeat (first | exact (Kd.C_below HR0.out HB.out) | (with_reducible refine Kd.C_alloc ?_ _) | (with_reducible refine Kd.C_drewN ?_ _) | (with_reducible refine Kd.C_drew ?_))); (case side2 => exact HC0.out); rintro e w14 ⟨rfl, hb⟩; refine ⟨_, rfl, ?_⟩; have n0_ := Aside0.mk (below_step bA hb); clear HB; have HB := n0_; clear n0_; (try clear hb)))
    go_ret2
    exact ⟨eA, bA⟩
 ·
  replace c5 := Bool.eq_false_iff.mpr c5
  subst c5
  rw [if_neg Bool.false_ne_true] at H
  simp only [Option.some.injEq, Prod.mk.injEq] at H
  obtain ⟨rfl, rfl⟩ := H
  go_enter Try.func10, Try.ntmps10
  go_wp2_with (first | ((with_reducible refine gate_callee (f := 15) rfl ?_); refine gL_ 10 Try.func15 #[.slice A0 l0.length c0] ?_; (with_reducible refine (chart_Is.calls _ _ l0 false _ ?side1 ?side2 A4.out).mono ?_); (case side1 => exact cA HR0.out); (case side2 => exact HC0.out); rintro e w15 ⟨rfl, hb⟩; refine ⟨_, rfl, ?_⟩; have n0_ := Aside0.mk (below_step bA hb); clear HB; have HB := n0_; clear n0_; (try clear hb)))
  go_ret2
  exact ⟨eA, bA⟩
end Go.Proofs.Ytejdflndgnpkcaa.P
end
section
namespace Go.Proofs.Ytejdflndgnpkcaa.P
open Go.RowKit Go.Proofs.YtejdflndgnpkcaaW.PrintWords Go.Proofs.YtejdflndgnpkcaaW.PrintLast Go.Proofs.YtejdflndgnpkcaaW.PrintMore
def formM (l : List S50) (n : Int) : ByteArray × Int := if n = 0 then smallN l else if n = 4 then putS l else if n = 6 then trimN l else putG l n
def kindP (n : Int) : Int := if n = 0 then 1 else 3
def kindE (n : Int) : Int := if n = 0 then 0 else if n = 4 ∨ n = 6 then 1 else 10
theorem isFmt_iff (n : Int) : isFmt n = true ↔ (n = 0 ∨ n = 4 ∨ n = 6 ∨ n = 12 ∨ n = 13) := by unfold isFmt; exact decide_eq_true_iff
theorem putM_not {l : List S50} {n : Int} (h : isFmt n = false) : putM l n = (⟨#[]⟩, 1) := by
 have h := of_decide_eq_false h
 unfold putM
 rw [if_neg (by omega), if_neg (by omega), if_neg (by omega), if_neg (by omega), if_neg (by omega)]
theorem putM_form {l : List S50} {n : Int} (h : isFmt n = true) : putM l n = wrapC (kindP n) (kindE n) (formM l n) := by
 rcases (isFmt_iff n).1 h with rfl | rfl | rfl | rfl | rfl <;> simp [putM, kindP, kindE, formM]
theorem kind_bd (n : Int) : 0 ≤ kindP n ∧ kindP n ≤ 65535 ∧ 0 ≤ kindE n ∧ kindE n ≤ 65535 := by
 unfold kindP kindE
 split
 · omega
 · split <;> omega
theorem kind_good {n : Int} (h : isFmt n = true) : bestP (kindP n) (kindE n) ≠ 0 := by
 rcases (isFmt_iff n).1 h with rfl | rfl | rfl | rfl | rfl <;> decide
theorem ext_all (t : ByteArray) : t.extract 0 t.size = t := by
 have h := ba_drop [] t.data.toList
 rw [List.nil_append, ba_of] at h
 exact h
theorem w2_in (s : ByteArray) (p : Nat) (h : p ≤ s.size) : w2 (s.extract p s.size) 0 = w2 s p := by
 unfold w2
 rw [ext_all]
theorem small_good {l : List S50} (h : (smallN l).2 = 0) : ∃ M, isL l = true ∧ (smallN l).1.size = 262 ∧ w2 (smallN l).1 0 = 0 ∧ getC (smallN l).1 = (M, 0) ∧ isL M = true ∧ ∀ c, lookN M c = lookN l c := by
 unfold smallN at h ⊢
 by_cases h1 : isL l = false
 · rw [if_pos h1] at h; exact absurd (show (1 : Int) = 0 from h) (by decide)
 have hi : isL l = true := by cases hh : isL l with | true => rfl | false => exact absurd hh h1
 rw [if_neg h1] at h ⊢
 by_cases hb : 256 ≤ (endsN l).2.1
 · rw [if_pos hb] at h; exact absurd (show (7 : Int) = 0 from h) (by decide)
 rw [if_neg hb] at h ⊢
 by_cases hok : smallOk l = true
 case neg => rw [if_neg hok] at h; exact absurd (show (7 : Int) = 0 from h) (by decide)
 rw [if_pos hok]
 have hg := looks_bd hi 0 256
 simp only [Int.zero_add] at hg
 have hM : isL (spansN 0 ((List.range 256).map (fun c : Nat => lookN l (c : Int)))) = true := spans_isL (by decide) (by simp) hg
 refine ⟨_, hi, by rw [ba_size, smallB_length], ?_, small_get hi hok, hM, fun c => ?_⟩
 ·
  have := w2_at [] 0 ([1, 6, 0, 0] ++ (List.range 256).map (byteG l)) (by omega) (by omega) 0 rfl
  exact this
 ·
  have := small_back hi (by omega) c hg
  unfold glyphOf at this
  rwa [hM, if_pos rfl] at this
theorem trim_good {l : List S50} (h : (trimN l).2 = 0) : ∃ M, isL l = true ∧ 10 ≤ (trimN l).1.size ∧ w2 (trimN l).1 0 = 6 ∧ getC (trimN l).1 = (M, 0) ∧ isL M = true ∧ ∀ c, lookN M c = lookN l c := by
 unfold trimN at h ⊢
 by_cases h1 : isL l = false
 · rw [if_pos h1] at h; exact absurd (show (1 : Int) = 0 from h) (by decide)
 have hi : isL l = true := by cases hh : isL l with | true => rfl | false => exact absurd hh h1
 rw [if_neg h1] at h ⊢
 obtain ⟨_, i1, i2⟩ := isL_all hi
 have hw : ∀ (a : Int) (m : Int) (g : List UInt8), w2 ⟨(headT a m ++ g).toArray⟩ 0 = 6 := fun a m g => by
  have := w2_at [] 6 (bytesN (10 + 2 * m) 2 ++ (bytesN 0 2 ++ (bytesN a 2 ++ (bytesN m 2 ++ []))) ++ g) (by omega) (by omega) 0 rfl
  simpa only [headT, List.nil_append, List.append_assoc] using this
 have hz : ∀ (a : Int) (m : Int) (g : List UInt8), 10 ≤ (⟨(headT a m ++ g).toArray⟩ : ByteArray).size := fun a m g => by
  rw [ba_size, List.length_append, headT_length]; omega
 rcases ends_in l i1 i2 with ⟨h3, _⟩ | ⟨a, b, h3, h4, h5, h6⟩
 ·
  have ht := trim_get hi (a := 0) (m := 0) (by decide) (by decide) (by decide) (by decide) []
  rw [List.append_nil] at ht
  rw [h3] at h ⊢
  simp only at h ⊢
  have hm0 : manyT 0 0 false = 0 := rfl
  rw [hm0] at h ⊢
  rw [if_neg (show ¬ ((65535 : Int) < 0 ∨ (32762 : Int) < 0) by decide)]
  have e0 : (0 : Int).toNat = 0 := rfl
  simp only
  rw [e0]
  have ht' : getC ⟨(headT 0 0 ++ glyphsT l 0 0).toArray⟩ = (([] : List S50), 0) := ht
  refine ⟨[], hi, hz _ _ _, hw _ _ _, ht', by decide, fun c => ?_⟩
  rw [trim_none hi (by rw [h3]) c]
  rfl
 ·
  rw [h3] at h ⊢
  simp only at h ⊢
  have hmt : manyT a b true = b - a + 1 := by unfold manyT; rw [if_pos rfl]
  rw [hmt] at h ⊢
  by_cases hb : 65535 < b ∨ 32762 < b - a + 1
  · rw [if_pos hb] at h; exact absurd (show (7 : Int) = 0 from h) (by decide)
  rw [if_neg hb]
  simp only
  obtain ⟨m, hm⟩ := Int.eq_ofNat_of_zero_le (show 0 ≤ b - a + 1 by omega)
  rw [hm, Int.toNat_natCast]
  have ht := trim_get hi (a := a) (m := m) h4 (by omega) (by omega) (by omega) []
  rw [List.append_nil] at ht
  have hM : isL (spansN a ((List.range m).map (fun i : Nat => lookN l (a + (i : Int))))) = true := spans_isL h4 (by simp; omega) (looks_bd hi a m)
  refine ⟨_, hi, hz _ _ _, hw _ _ _, ht, hM, fun c => ?_⟩
  have := trim_back hi h3 h4 m hm.symm (by omega) c
  unfold glyphOf at this
  rwa [hM, if_pos rfl] at this
theorem seg_good {l : List S50} (h : (putS l).2 = 0) : ∃ M, isL l = true ∧ 16 ≤ (putS l).1.size ∧ w2 (putS l).1 0 = 4 ∧ getS (putS l).1 = (M, 0) ∧ isL M = true ∧ ∀ c, lookN M c = lookN l c := by
 obtain ⟨L, k, hs, hp⟩ := putS_ok h
 obtain ⟨hi, _, hk, _, hg⟩ := segP_good hs
 obtain ⟨h1, h2⟩ := segX_good hs
 have hget := get_out hg []
 rw [List.append_nil] at hget
 refine ⟨_, hi, by rw [hp, ba_size, bytesS_length, out_length]; omega, ?_, by rw [hp]; exact hget, h1, h2⟩
 rw [hp]
 have hq := w2_q (outS L (cntR L)) [] (out_fits hg) 0 4 (by rfl)
 rw [List.append_nil] at hq
 exact hq
theorem group_good {l : List S50} {f : Int} (hf : f = 12 ∨ f = 13) (h : (putG l f).2 = 0) : ∃ M, isL l = true ∧ 16 ≤ (putG l f).1.size ∧ (putG l f).1.size ≤ 800000 ∧ (∀ m : ByteArray, w2 ((putG l f).1 ++ m) 0 = f ∧ getG ((putG l f).1 ++ m) = (M, 0)) ∧ isL M = true ∧ ∀ c, lookN M c = lookN l c := by
 unfold putG at h ⊢
 have h1 : ¬ (f ≠ 12 ∧ f ≠ 13) := by omega
 rw [if_neg h1] at h ⊢
 by_cases h2 : (splitN l (13 - f)).2 ≠ 0
 · rw [if_pos h2] at h; exact absurd h h2
 rw [if_neg h2]
 have h3 : (splitN l (13 - f)).2 = 0 := Decidable.of_not_not h2
 obtain ⟨L, hs⟩ : ∃ L, splitN l (13 - f) = (L, 0) := ⟨(splitN l (13 - f)).1, by rw [← h3]⟩
 obtain ⟨hi, hst, hL, hstep, hlk⟩ := split_good hs
 have hlen := (isL_all hL).1
 rw [hs]
 simp only
 have hsz : (⟨(headB f (L.length : Int) ++ spansB L).toArray⟩ : ByteArray).size = 16 + 12 * L.length := by
  rw [ba_size, List.length_append, headB_length, spansB_length]
 refine ⟨L, hi, by omega, by omega, fun m => ?_, hL, hlk⟩
 rw [ba_more]
 refine ⟨?_, get_putG hL hf hstep _⟩
 have := w2_at [] f (bytesN 0 2 ++ (bytesN (16 + 12 * (L.length : Int)) 4 ++ (bytesN 0 4 ++ (bytesN (L.length : Int) 4 ++ []))) ++ spansB L ++ m.data.toList) (by omega) (by omega) 0 rfl
 simpa only [headB, List.nil_append, List.append_assoc] using this
structure Back (l : List S50) (t : ByteArray) (n : Int) (M : List S50) : Prop where
 z : 2 ≤ t.size
 w : w2 t 0 = n
 g : readM t = (M, 0)
 i : isL l = true
 j : isL M = true
 k : ∀ c, lookN M c = lookN l c
theorem app_nil (t : ByteArray) : t ++ (⟨#[]⟩ : ByteArray) = t := by
 apply ByteArray.ext
 simp
theorem form_back {l : List S50} {n : Int} (hf : isFmt n = true) (h : (formM l n).2 = 0) : ∃ M, Back l (formM l n).1 n M := by
 rcases (isFmt_iff n).1 hf with rfl | rfl | rfl | hh
 ·
  have e : formM l 0 = smallN l := by simp [formM]
  rw [e] at h ⊢
  obtain ⟨M, h1, h2, h3, h4, h5, h6⟩ := small_good h
  exact ⟨M, by omega, h3, by unfold readM; rw [if_neg (by omega), if_pos (.inl h3)]; exact h4, h1, h5, h6⟩
 ·
  have e : formM l 4 = putS l := by simp [formM]
  rw [e] at h ⊢
  obtain ⟨M, h1, h2, h3, h4, h5, h6⟩ := seg_good h
  exact ⟨M, by omega, h3, by unfold readM; rw [if_neg (by omega), if_neg (by omega), if_pos h3]; exact h4, h1, h5, h6⟩
 ·
  have e : formM l 6 = trimN l := by simp [formM]
  rw [e] at h ⊢
  obtain ⟨M, h1, h2, h3, h4, h5, h6⟩ := trim_good h
  exact ⟨M, by omega, h3, by unfold readM; rw [if_neg (by omega), if_pos (.inr h3)]; exact h4, h1, h5, h6⟩
 ·
  have e : formM l n = putG l n := by unfold formM; rw [if_neg (by omega), if_neg (by omega), if_neg (by omega)]
  rw [e] at h ⊢
  obtain ⟨M, h1, h2, _, h4, h5, h6⟩ := group_good hh h
  have h4 := h4 ⟨#[]⟩
  rw [app_nil] at h4
  exact ⟨M, by omega, h4.1, by unfold readM; rw [if_neg (by omega), if_neg (by omega), if_neg (by omega), if_pos (by omega)]; exact h4.2, h1, h5, h6⟩
theorem bestP_bd (p q : Int) : 0 ≤ bestP p q ∧ bestP p q ≤ 9 := by
 unfold bestP
 repeat' split
 all_goals omega
theorem one_rec {a b : Int} (ha : 0 ≤ a ∧ a ≤ 65535) (hb : 0 ≤ b ∧ b ≤ 65535) (hg : bestP a b ≠ 0) (t : ByteArray) (ht : 2 ≤ t.size) (hf : isFmt (w2 t 0) = true) : getM ((⟨(headC a b).toArray⟩ : ByteArray) ++ t) = readM t := by
 obtain ⟨s, hs⟩ : ∃ s, s = (⟨(headC a b).toArray⟩ : ByteArray) ++ t := ⟨_, rfl⟩
 rw [← hs]
 have hs2 : s = ⟨(headC a b ++ t.data.toList).toArray⟩ := by rw [hs, ba_more]
 have hsz : s.size = 12 + t.size := by rw [hs, ByteArray.size_append, ba_size, headC_length]
 have e0 : w2 s 0 = 0 := by
  rw [hs2]
  have := w2_at [] 0 (bytesN 1 2 ++ (bytesN a 2 ++ (bytesN b 2 ++ (bytesN 12 4 ++ []))) ++ t.data.toList) (by omega) (by omega) 0 rfl
  simpa only [headC, List.nil_append, List.append_assoc] using this
 have e2 : w2 s 2 = 1 := by
  rw [hs2]
  have := w2_at (bytesN 0 2) 1 (bytesN a 2 ++ (bytesN b 2 ++ (bytesN 12 4 ++ [])) ++ t.data.toList) (by omega) (by omega) 2 (by rw [bytesN_length])
  simpa only [headC, List.append_assoc] using this
 have e4 : w2 s 4 = a := by
  rw [hs2]
  have := w2_at (bytesN 0 2 ++ bytesN 1 2) a (bytesN b 2 ++ (bytesN 12 4 ++ []) ++ t.data.toList) (by omega) (by omega) 4 (by simp [bytesN_length])
  simpa only [headC, List.append_assoc] using this
 have e6 : w2 s 6 = b := by
  rw [hs2]
  have := w2_at (bytesN 0 2 ++ (bytesN 1 2 ++ bytesN a 2)) b (bytesN 12 4 ++ [] ++ t.data.toList) (by omega) (by omega) 6 (by simp [bytesN_length])
  simpa only [headC, List.append_assoc] using this
 have e8 : w4 s 8 = 12 := by
  rw [hs2]
  have := w4_at (bytesN 0 2 ++ (bytesN 1 2 ++ (bytesN a 2 ++ bytesN b 2))) 12 ([] ++ t.data.toList) (by omega) (by omega) 8 (by simp [bytesN_length])
  simpa only [headC, List.append_assoc] using this
 have hx : s.extract 12 s.size = t := by
  rw [hs2]
  have := ba_drop (headC a b) t.data.toList
  rw [headC_length] at this
  rw [this]
 have hw : w2 s 12 = w2 t 0 := by rw [← w2_in s 12 (by omega), hx]
 have hen : entM s 0 = ⟨bestP a b, 12⟩ := by
  unfold entM
  show (⟨bestP (w2 s 4) (w2 s 6), w4 s 8⟩ : S41) = _
  rw [e4, e6, e8]
 have hmay : mayM s ⟨bestP a b, 12⟩ = true := by
  unfold mayM
  have e12 : (12 : Int).toNat = 12 := rfl
  rw [decide_eq_true hg, e12, decide_eq_true (by omega), hw, hf]
  rfl
 have hents : entsM s 1 = [⟨bestP a b, 12⟩] := by
  rw [entsM_succ, hen, if_pos hmay]
  rfl
 unfold getM
 have e1 : (1 : Int).toNat = 1 := rfl
 rw [if_neg (by omega), e0, e2, if_neg (by decide), if_neg (by decide), if_neg (by omega), e1, hents]
 show (if true = false then _ else readM (s.extract 12 s.size)) = _
 rw [if_neg (by decide), hx]
theorem put_back {l : List S50} {n : Int} (h : (putM l n).2 = 0) : ∃ M, isFmt n = true ∧ (formM l n).2 = 0 ∧ Back l (formM l n).1 n M ∧ (putM l n).1.size = 12 + (formM l n).1.size ∧ getM (putM l n).1 = (M, 0) ∧ (putM l n).1.extract 12 (putM l n).1.size = (formM l n).1 := by
 by_cases hf : isFmt n = true
 case neg => rw [putM_not (by cases hh : isFmt n with | true => exact absurd hh hf | false => rfl)] at h; exact absurd (show (1 : Int) = 0 from h) (by decide)
 rw [putM_form hf] at h ⊢
 unfold wrapC at h ⊢
 by_cases h0 : (formM l n).2 ≠ 0
 · rw [if_pos h0] at h; exact absurd h h0
 rw [if_neg h0]
 have h0 : (formM l n).2 = 0 := Decidable.of_not_not h0
 obtain ⟨M, hB⟩ := form_back hf h0
 obtain ⟨b1, b2, b3, b4⟩ := kind_bd n
 refine ⟨M, hf, h0, hB, by show (_ ++ _ : ByteArray).size = _; rw [ByteArray.size_append, ba_size, headC_length], ?_, ?_⟩
 ·
  show getM (_ ++ _) = _
  rw [one_rec ⟨b1, b2⟩ ⟨b3, b4⟩ (kind_good hf) _ hB.z (by rw [hB.w]; exact hf), hB.g]
 ·
  show ByteArray.extract (_ ++ _) 12 (ByteArray.size (_ ++ _)) = _
  rw [ba_more]
  have := ba_drop (headC (kindP n) (kindE n)) (formM l n).1.data.toList
  rw [headC_length] at this
  rw [this]
end Go.Proofs.Ytejdflndgnpkcaa.P
end
section
namespace Go.Proofs.Ytejdflndgnpkcaa.P
open Go.RowKit Go.Proofs.YtejdflndgnpkcaaW.PrintWords Go.Proofs.YtejdflndgnpkcaaW.PrintLast Go.Proofs.YtejdflndgnpkcaaW.PrintMore
def headR (p q f x y g : Int) : List UInt8 := bytesN 0 2 ++ (bytesN 2 2 ++ (bytesN p 2 ++ (bytesN q 2 ++ (bytesN f 4 ++ (bytesN x 2 ++ (bytesN y 2 ++ (bytesN g 4 ++ [])))))))
theorem headR_length (p q f x y g : Int) : (headR p q f x y g).length = 20 := by
 unfold headR
 simp [bytesN_length]
theorem two_ents {s : ByteArray} {f g : Int} {p q x y : Int} (h0 : entM s 0 = ⟨bestP p q, f⟩) (h1 : entM s 1 = ⟨bestP x y, g⟩) (hf : f.toNat + 2 ≤ s.size) (hg : g.toNat + 2 ≤ s.size) (uf : isFmt (w2 s f.toNat) = true) (ug : isFmt (w2 s g.toNat) = true) :
  bestS (entsM s 2) = if bestP p q = 0 ∧ bestP x y = 0 then (⟨0, 0⟩, false) else if bestP p q < bestP x y then (⟨bestP x y, g⟩, true) else (⟨bestP p q, f⟩, true) := by
 have b1 := (bestP_bd p q).1
 have b2 := (bestP_bd x y).1
 have m0 : mayM s ⟨bestP p q, f⟩ = decide (bestP p q ≠ 0) := by unfold mayM; rw [decide_eq_true hf, uf]; simp
 have m1 : mayM s ⟨bestP x y, g⟩ = decide (bestP x y ≠ 0) := by unfold mayM; rw [decide_eq_true hg, ug]; simp
 have he : entsM s 2 = ([] ++ (if mayM s ⟨bestP p q, f⟩ = true then [⟨bestP p q, f⟩] else [])) ++ (if mayM s ⟨bestP x y, g⟩ = true then [⟨bestP x y, g⟩] else []) := by
  rw [entsM_succ, h1, entsM_succ, h0]
  rfl
 rw [he, m0, m1]
 by_cases c0 : bestP p q = 0
 ·
  by_cases c1 : bestP x y = 0
  ·
   rw [decide_eq_false (not_not_intro c0), decide_eq_false (not_not_intro c1), if_neg Bool.false_ne_true, if_neg Bool.false_ne_true, if_pos ⟨c0, c1⟩]
   rfl
  ·
   rw [decide_eq_false (not_not_intro c0), decide_eq_true c1, if_neg Bool.false_ne_true, if_pos rfl, if_neg (by omega), if_pos (by omega)]
   show pickS (⟨0, 0⟩, false) _ = _
   unfold pickS
   rw [if_pos (.inl rfl)]
 ·
  by_cases c1 : bestP x y = 0
  ·
   rw [decide_eq_true c0, decide_eq_false (not_not_intro c1), if_pos rfl, if_neg Bool.false_ne_true, if_neg (by omega), if_neg (by omega)]
   show pickS (⟨0, 0⟩, false) _ = _
   unfold pickS
   rw [if_pos (.inl rfl)]
  ·
   rw [decide_eq_true c0, decide_eq_true c1, if_pos rfl, if_pos rfl, if_neg (by omega)]
   show pickS (pickS (⟨0, 0⟩, false) _) _ = _
   have e : pickS (⟨0, 0⟩, false) ⟨bestP p q, f⟩ = (⟨bestP p q, f⟩, true) := by unfold pickS; rw [if_pos (.inl rfl)]
   rw [e]
   unfold pickS
   by_cases c2 : bestP p q < bestP x y
   · rw [if_pos (.inr c2), if_pos c2]
   · rw [if_neg (by rintro (h | h); exact Bool.noConfusion h; exact c2 h), if_neg c2]
theorem two_rec {p q x y f g : Int} (hp : 0 ≤ p ∧ p ≤ 65535) (hq : 0 ≤ q ∧ q ≤ 65535) (hx : 0 ≤ x ∧ x ≤ 65535) (hy : 0 ≤ y ∧ y ≤ 65535) (hf : 0 ≤ f ∧ f ≤ 4294967295) (hg : 0 ≤ g ∧ g ≤ 4294967295) (t s : ByteArray) (hs : s = (⟨(headR p q f x y g).toArray⟩ : ByteArray) ++ t)
  (zf : f.toNat + 2 ≤ s.size) (zg : g.toNat + 2 ≤ s.size) (uf : isFmt (w2 s f.toNat) = true) (ug : isFmt (w2 s g.toNat) = true) :
  getM s = if bestP p q = 0 ∧ bestP x y = 0 then ([], 6) else if bestP p q < bestP x y then readM (s.extract g.toNat s.size) else readM (s.extract f.toNat s.size) := by
 have hs2 : s = ⟨(headR p q f x y g ++ t.data.toList).toArray⟩ := by rw [hs, ba_more]
 have hsz : s.size = 20 + t.size := by rw [hs, ByteArray.size_append, ba_size, headR_length]
 have e0 : w2 s 0 = 0 := by
  rw [hs2]
  have := w2_at [] 0 (bytesN 2 2 ++ (bytesN p 2 ++ (bytesN q 2 ++ (bytesN f 4 ++ (bytesN x 2 ++ (bytesN y 2 ++ (bytesN g 4 ++ [])))))) ++ t.data.toList) (by omega) (by omega) 0 rfl
  simpa only [headR, List.nil_append, List.append_assoc] using this
 have e2 : w2 s 2 = 2 := by
  rw [hs2]
  have := w2_at (bytesN 0 2) 2 (bytesN p 2 ++ (bytesN q 2 ++ (bytesN f 4 ++ (bytesN x 2 ++ (bytesN y 2 ++ (bytesN g 4 ++ []))))) ++ t.data.toList) (by omega) (by omega) 2 (by simp [bytesN_length])
  simpa only [headR, List.append_assoc] using this
 have e4 : w2 s 4 = p := by
  rw [hs2]
  have := w2_at (bytesN 0 2 ++ bytesN 2 2) p (bytesN q 2 ++ (bytesN f 4 ++ (bytesN x 2 ++ (bytesN y 2 ++ (bytesN g 4 ++ [])))) ++ t.data.toList) (by omega) (by omega) 4 (by simp [bytesN_length])
  simpa only [headR, List.append_assoc] using this
 have e6 : w2 s 6 = q := by
  rw [hs2]
  have := w2_at (bytesN 0 2 ++ (bytesN 2 2 ++ bytesN p 2)) q (bytesN f 4 ++ (bytesN x 2 ++ (bytesN y 2 ++ (bytesN g 4 ++ []))) ++ t.data.toList) (by omega) (by omega) 6 (by simp [bytesN_length])
  simpa only [headR, List.append_assoc] using this
 have e8 : w4 s 8 = f := by
  rw [hs2]
  have := w4_at (bytesN 0 2 ++ (bytesN 2 2 ++ (bytesN p 2 ++ bytesN q 2))) f (bytesN x 2 ++ (bytesN y 2 ++ (bytesN g 4 ++ [])) ++ t.data.toList) (by omega) (by omega) 8 (by simp [bytesN_length])
  simpa only [headR, List.append_assoc] using this
 have e12 : w2 s 12 = x := by
  rw [hs2]
  have := w2_at (bytesN 0 2 ++ (bytesN 2 2 ++ (bytesN p 2 ++ (bytesN q 2 ++ bytesN f 4)))) x (bytesN y 2 ++ (bytesN g 4 ++ []) ++ t.data.toList) (by omega) (by omega) 12 (by simp [bytesN_length])
  simpa only [headR, List.append_assoc] using this
 have e14 : w2 s 14 = y := by
  rw [hs2]
  have := w2_at (bytesN 0 2 ++ (bytesN 2 2 ++ (bytesN p 2 ++ (bytesN q 2 ++ (bytesN f 4 ++ bytesN x 2))))) y (bytesN g 4 ++ [] ++ t.data.toList) (by omega) (by omega) 14 (by simp [bytesN_length])
  simpa only [headR, List.append_assoc] using this
 have e16 : w4 s 16 = g := by
  rw [hs2]
  have := w4_at (bytesN 0 2 ++ (bytesN 2 2 ++ (bytesN p 2 ++ (bytesN q 2 ++ (bytesN f 4 ++ (bytesN x 2 ++ bytesN y 2)))))) g ([] ++ t.data.toList) (by omega) (by omega) 16 (by simp [bytesN_length])
  simpa only [headR, List.append_assoc] using this
 have n0 : entM s 0 = ⟨bestP p q, f⟩ := by
  unfold entM
  show (⟨bestP (w2 s 4) (w2 s 6), w4 s 8⟩ : S41) = _
  rw [e4, e6, e8]
 have n1 : entM s 1 = ⟨bestP x y, g⟩ := by
  unfold entM
  show (⟨bestP (w2 s 12) (w2 s 14), w4 s 16⟩ : S41) = _
  rw [e12, e14, e16]
 have hb := two_ents n0 n1 zf zg uf ug
 unfold getM
 have h2 : (2 : Int).toNat = 2 := rfl
 rw [if_neg (by omega), e0, e2, if_neg (by decide), if_neg (by decide), if_neg (by omega), h2, hb]
 by_cases c0 : bestP p q = 0 ∧ bestP x y = 0
 · rw [if_pos c0, if_pos c0, if_pos rfl]
 rw [if_neg c0, if_neg c0]
 by_cases c1 : bestP p q < bestP x y
 · rw [if_pos c1, if_pos c1, if_neg (fun h => Bool.noConfusion h)]
 · rw [if_neg c1, if_neg c1, if_neg (fun h => Bool.noConfusion h)]
end Go.Proofs.Ytejdflndgnpkcaa.P
end
section
namespace Go.Proofs.Ytejdflndgnpkcaa.P
open Go.RowKit Go.Proofs.YtejdflndgnpkcaaW.PrintWords Go.Proofs.YtejdflndgnpkcaaW.PrintLast Go.Proofs.YtejdflndgnpkcaaW.PrintMore
theorem short10_loop (l : List S50) (hl : l.length ≤ 60) (d : Nat) : ∀ k i, l.length - i = d → i ≤ l.length → 2 * d + 3 ≤ k → ∃ b, vinculumref10_Short.l0 k l (i : Int) = some b := by
 induction d with
 | zero =>
  intro k i hd hi hk
  obtain ⟨k, rfl⟩ : ∃ n, k = n + 2 := ⟨k - 2, by omega⟩
  simp only [vinculumref10_Short.l0]
  rw [if_neg (by omega)]
  simp only [vinculumref10_Short.j1]
  exact ⟨_, rfl⟩
 | succ d ih =>
  intro k i hd hi hk
  obtain ⟨k, rfl⟩ : ∃ n, k = n + 2 := ⟨k - 2, by omega⟩
  have hw : wrap64 ((i : Int) + 1) = ((i + 1 : Nat) : Int) := by unfold wrap64; omega
  obtain ⟨b, hb⟩ := ih k (i + 1) (by omega) (by omega) (by omega)
  simp only [vinculumref10_Short.l0]
  rw [if_pos (by omega), decide_eq_true (show (l.length : Int) ≤ 60 by omega)]
  simp only [vinculumref10_Short.j1]
  rw [if_pos trivial, if_pos (by omega), if_pos (by omega), hw, hb]
  split
  ·
   split
   · exact ⟨_, rfl⟩
   · exact ⟨_, rfl⟩
  · exact ⟨_, rfl⟩
theorem short10_told (l : List S50) (k : Nat) (hk : 200 ≤ k) : ∃ b, vinculumref10_Short.f k l = some b ∧ (b = true → l.length ≤ 60) := by
 by_cases hl : l.length ≤ 60
 ·
  obtain ⟨b, hb⟩ := short10_loop l hl l.length k 0 rfl (by omega) (by omega)
  exact ⟨b, hb, fun _ => hl⟩
 ·
  refine ⟨false, ?_, fun h => absurd h (by decide)⟩
  obtain ⟨k, rfl⟩ : ∃ n, k = n + 2 := ⟨k - 2, by omega⟩
  unfold vinculumref10_Short.f
  simp only [vinculumref10_Short.l0]
  rw [if_pos (by omega), decide_eq_false (show ¬ (l.length : Int) ≤ 60 by omega)]
  simp only [vinculumref10_Short.j1]
  rw [if_neg Bool.false_ne_true, decide_eq_false (show ¬ (l.length : Int) ≤ 60 by omega)]
theorem bytes_four {v : Int} (h0 : 0 ≤ v) (h1 : v ≤ 4294967295) (k : Nat) (hk : 16 ≤ k) : vinculumref03_Bytes.f k v 4 = some ⟨(bytesN v 4).toArray⟩ :=
  bytesN_told v 4 (by omega) (by have : (256 : Int) ^ 4 = 4294967296 := by decide
                                 omega) (by have : (256 : Int) ^ 4 = 4294967296 := by decide
                                            omega) k hk
end Go.Proofs.Ytejdflndgnpkcaa.P
end
section
namespace Go.Proofs.Ytejdflndgnpkcaa.P
open Go.RowKit Go.Proofs.YtejdflndgnpkcaaW.PrintWords Go.Proofs.YtejdflndgnpkcaaW.PrintLast Go.Proofs.YtejdflndgnpkcaaW.PrintMore
theorem same_self8 (l : List S50) (h : l.length ≤ 140000) (k : Nat) (hk : l.length < k) : vinculumref08_Same.f k l l = some true := by
 unfold vinculumref08_Same.f
 rw [if_pos rfl]
 have hs : ∀ (d : Nat), ∀ k i, l.length - i = d → i ≤ l.length → d < k → vinculumref08_Same.l0 k l l (i : Int) = some true := by
  intro d
  induction d with
  | zero =>
   intro k i hd hi hk
   obtain ⟨k, rfl⟩ : ∃ n, k = n + 1 := ⟨k - 1, by omega⟩
   simp only [vinculumref08_Same.l0]
   rw [if_neg (by omega)]
  | succ d ih =>
   intro k i hd hi hk
   obtain ⟨k, rfl⟩ : ∃ n, k = n + 1 := ⟨k - 1, by omega⟩
   have hw : wrap64 ((i : Int) + 1) = ((i + 1 : Nat) : Int) := by unfold wrap64; omega
   have := ih k (i + 1) (by omega) (by omega) (by omega)
   simp only [vinculumref08_Same.l0]
   rw [if_pos (by omega), if_pos (by omega), if_pos (by omega), hw, if_neg (by simp)]
   exact this
 exact hs l.length k 0 (by omega) (by omega) hk
theorem short_told (l : List S50) (k : Nat) (hk : 200000 ≤ k) : ∃ b, vinculumref08_Short.f k l = some b := by
 unfold vinculumref08_Short.f
 rw [is_ref8 l k (.inl (by omega)), Option.bind_some]
 cases h : isL l with
 | false => exact ⟨true, by rw [if_neg Bool.false_ne_true]⟩
 | true =>
  have := (isL_all h).1
  rw [if_pos rfl, ends_ref h k (by omega), Option.bind_some]
  by_cases h2 : (endsR l).2.2 = true
  ·
   rw [if_pos h2]
   by_cases h3 : wrap64 ((endsR l).2.1 - (endsR l).1) < 2000
   · exact ⟨true, by rw [if_pos h3]⟩
   ·
    rw [if_neg h3]
    by_cases h4 : (endsR l).2.1 > 65535
    · exact ⟨true, by rw [if_pos h4]⟩
    · exact ⟨_, by rw [if_neg h4]⟩
  · exact ⟨true, by rw [if_neg h2]⟩
end Go.Proofs.Ytejdflndgnpkcaa.P
end
section
namespace Go.Proofs.Ytejdflndgnpkcaa.P
open Go.RowKit Go.Proofs.YtejdflndgnpkcaaW.PrintWords Go.Proofs.YtejdflndgnpkcaaW.PrintLast Go.Proofs.YtejdflndgnpkcaaW.PrintMore
theorem short09_loop (l : List S50) (hl : l.length ≤ 60) (d : Nat) : ∀ k a i, l.length - i = d → i ≤ l.length → 2 * d + 3 ≤ k → ∃ b, vinculumref09_Short.l0 k l a (i : Int) = some b := by
 induction d with
 | zero =>
  intro k a i hd hi hk
  obtain ⟨k, rfl⟩ : ∃ n, k = n + 2 := ⟨k - 2, by omega⟩
  simp only [vinculumref09_Short.l0]
  rw [if_neg (by omega)]
  simp only [vinculumref09_Short.j1]
  rw [if_neg Bool.false_ne_true]
  split <;> exact ⟨_, rfl⟩
 | succ d ih =>
  intro k a i hd hi hk
  obtain ⟨k, rfl⟩ : ∃ n, k = n + 2 := ⟨k - 2, by omega⟩
  have hw : wrap64 ((i : Int) + 1) = ((i + 1 : Nat) : Int) := by unfold wrap64; omega
  simp only [vinculumref09_Short.l0]
  rw [if_pos (by omega), decide_eq_true (show (l.length : Int) ≤ 60 by omega)]
  simp only [vinculumref09_Short.j1]
  rw [if_pos trivial, if_pos (by omega), if_pos (by omega), hw]
  split
  · exact ih k _ (i + 1) (by omega) (by omega) (by omega)
  · exact ih k _ (i + 1) (by omega) (by omega) (by omega)
theorem short09_told (l : List S50) (k : Nat) (hk : 200 ≤ k) : ∃ b, vinculumref09_Short.f k l = some b ∧ (b = true → l.length ≤ 60) := by
 by_cases hl : l.length ≤ 60
 ·
  obtain ⟨b, hb⟩ := short09_loop l hl l.length k 0 0 rfl (by omega) (by omega)
  exact ⟨b, hb, fun _ => hl⟩
 ·
  refine ⟨false, ?_, fun h => absurd h (by decide)⟩
  obtain ⟨k, rfl⟩ : ∃ n, k = n + 2 := ⟨k - 2, by omega⟩
  unfold vinculumref09_Short.f
  simp only [vinculumref09_Short.l0]
  rw [if_pos (by omega), decide_eq_false (show ¬ (l.length : Int) ≤ 60 by omega)]
  simp only [vinculumref09_Short.j1]
  rw [if_neg Bool.false_ne_true, if_neg (show ¬ (l.length : Int) ≤ 60 by omega)]
def P0 : List S50 := [⟨65, 70, 3, 1⟩, ⟨80, 81, 9, 0⟩]
def P1 : List S50 := [⟨65, 70, 3, 1⟩, ⟨80, 81, 9, 0⟩, ⟨65535, 65535, 0, 1⟩]
def P2 : List S50 := [⟨65, 70, 3, 1⟩, ⟨80, 80, 9, 1⟩, ⟨81, 81, 9, 1⟩, ⟨65535, 65535, 0, 1⟩]
end Go.Proofs.Ytejdflndgnpkcaa.P
end
section
namespace Go.Proofs.Ytejdflndgnpkcaa.P
open Go.RowKit Go.Proofs.YtejdflndgnpkcaaW.PrintWords Go.Proofs.YtejdflndgnpkcaaW.PrintLast Go.Proofs.YtejdflndgnpkcaaW.PrintMore
theorem short11_told (l : List S50) (k : Nat) (hk : 200000 ≤ k) : ∃ b, vinculumref11_Short.f k l = some b ∧ (b = true → l.length ≤ 60) := by
 obtain ⟨b1, h1⟩ := short_told l k hk
 obtain ⟨b2, h2, g2⟩ := short09_told l k (by omega)
 obtain ⟨b3, h3, _⟩ := short10_told l k (by omega)
 unfold vinculumref11_Short.f
 rw [h1, Option.bind_some]
 cases b1 with
 | false => rw [if_neg Bool.false_ne_true]; exact ⟨false, rfl, fun h => absurd h (by decide)⟩
 | true =>
  rw [if_pos rfl, h2, Option.bind_some]
  cases b2 with
  | false => rw [if_neg Bool.false_ne_true]; exact ⟨false, rfl, fun h => absurd h (by decide)⟩
  | true => rw [if_pos rfl, h3, Option.bind_some]; exact ⟨b3, rfl, fun _ => g2 rfl⟩
def glyM (l : List S50) (c g : Int) : Int × Int := if isL l = false then (0, 1) else if lookN l c = 0 then (0, 10) else if g ≤ lookN l c then (0, 10) else (lookN l c, 0)
theorem glyph_told (l : List S50) (c g : Int) : cmap_Glyph.f l c g = some (glyM l c g) := by
 have his : chart_Is.f l = some (isL l) := rfl
 unfold cmap_Glyph.f glyM
 rw [his, Option.bind_some]
 cases h : isL l with
 | false => rw [if_neg Bool.false_ne_true, if_pos rfl]
 | true =>
  rw [if_pos rfl, if_neg (show ¬ true = false by decide), look_told, Option.bind_some]
  unfold glyphOf
  rw [h, if_pos rfl]
  by_cases h0 : lookN l c = 0
  · rw [if_pos h0, if_pos h0]
  ·
   rw [if_neg h0, if_neg h0]
   by_cases h1 : g ≤ lookN l c
   · rw [if_pos h1, if_pos h1]
   · rw [if_neg h1, if_neg h1]
def C0 : List S50 := [⟨65, 66, 3, 1⟩]
theorem c0_put : (putM C0 4).2 = 0 := by kernel_rfl
structure Grp (t : ByteArray) (f : Int) (L : List S50) : Prop where
 z : 16 ≤ t.size
 y : t.size ≤ 800000
 ff : f = 12 ∨ f = 13
 h : ∀ m : ByteArray, w2 (t ++ m) 0 = f ∧ getG (t ++ m) = (L, 0)
 j : isL L = true
theorem Grp.more {t : ByteArray} {f : Int} {L : List S50} (g : Grp t f L) (m : ByteArray) : readM (t ++ m) = (L, 0) := by
 have h1 := (g.h m).1
 have h2 := g.ff
 have h3 := g.z
 have h4 : (t ++ m).size = t.size + m.size := ByteArray.size_append
 unfold readM
 rw [if_neg (by omega), if_neg (by omega), if_neg (by omega), if_pos (by omega)]
 exact (g.h m).2
theorem Grp.self {t : ByteArray} {f : Int} {L : List S50} (g : Grp t f L) : readM t = (L, 0) := by
 have := g.more ⟨#[]⟩
 rwa [app_nil] at this
theorem Grp.form {t : ByteArray} {f : Int} {L : List S50} (g : Grp t f L) (m : ByteArray) : isFmt (w2 (t ++ m) 0) = true := by
 rw [(g.h m).1]
 rcases g.ff with rfl | rfl <;> rfl
theorem Grp.form1 {t : ByteArray} {f : Int} {L : List S50} (g : Grp t f L) : isFmt (w2 t 0) = true := by
 have := g.form ⟨#[]⟩
 rwa [app_nil] at this
theorem grp_of {l : List S50} {f : Int} (hf : f = 12 ∨ f = 13) (h : (putM l f).2 = 0) : ∃ L, Grp (putG l f).1 f L ∧ (putM l f).1.size = 12 + (putG l f).1.size ∧ (putM l f).1.extract 12 (putM l f).1.size = (putG l f).1 := by
 have e : formM l f = putG l f := by unfold formM; rw [if_neg (by omega), if_neg (by omega), if_neg (by omega)]
 obtain ⟨_, _, h0, _, hsz, _, hx⟩ := put_back h
 rw [e] at h0 hsz hx
 obtain ⟨L, _, g1, g2, g3, g4, _⟩ := group_good hf h0
 exact ⟨L, ⟨g1, g2, hf, g3, g4⟩, hsz, hx⟩
theorem cut_two (H u v s : ByteArray) (hH : H.size = 20) (hs : s = H ++ (u ++ v)) : s.size = 20 + u.size + v.size ∧ s.extract 20 s.size = u ++ v ∧ s.extract (20 + u.size) s.size = v := by
 have hz : s.size = 20 + u.size + v.size := by rw [hs, ByteArray.size_append, ByteArray.size_append, hH]; omega
 have e0 : H ++ (u ++ v) = ⟨(H.data.toList ++ (u ++ v).data.toList).toArray⟩ := by
  rw [← ba_more, ba_of]
 have e1 : H ++ (u ++ v) = ⟨((H.data.toList ++ u.data.toList) ++ v.data.toList).toArray⟩ := by
  rw [e0]
  congr 2
  have : (u ++ v).data.toList = u.data.toList ++ v.data.toList := by simp
  rw [this, List.append_assoc]
 refine ⟨hz, ?_, ?_⟩
 ·
  rw [hs, e0]
  have := ba_drop H.data.toList (u ++ v).data.toList
  rw [ba_len, hH, ba_of] at this
  exact this
 ·
  rw [hs, e1]
  have := ba_drop (H.data.toList ++ u.data.toList) v.data.toList
  rw [List.length_append, ba_len, ba_len, hH, ba_of] at this
  exact this
theorem got_two {p q x y f g : Int} {u v : ByteArray} {fu fv : Int} {U V : List S50} (hp : 0 ≤ p ∧ p ≤ 65535) (hq : 0 ≤ q ∧ q ≤ 65535) (hx : 0 ≤ x ∧ x ≤ 65535) (hy : 0 ≤ y ∧ y ≤ 65535) (hu : Grp u fu U) (hv : Grp v fv V)
  (hfg : (f = 20 ∧ g = 20 + (u.size : Int)) ∨ (f = 20 + (u.size : Int) ∧ g = 20)) :
  getM ((⟨(headR p q f x y g).toArray⟩ : ByteArray) ++ (u ++ v)) = if bestP p q = 0 ∧ bestP x y = 0 then ([], 6) else if bestP p q < bestP x y then (if g = 20 then (U, 0) else (V, 0)) else (if f = 20 then (U, 0) else (V, 0)) := by
 obtain ⟨s, hs⟩ : ∃ s, s = (⟨(headR p q f x y g).toArray⟩ : ByteArray) ++ (u ++ v) := ⟨_, rfl⟩
 obtain ⟨hz, c1, c2⟩ := cut_two _ u v s (by rw [ba_size, headR_length]) hs
 have zu := hu.z
 have zv := hv.z
 have yu := hu.y
 have yv := hv.y
 have w1 : isFmt (w2 s 20) = true := by rw [← w2_in s 20 (by omega), c1]; exact hu.form v
 have w2_ : isFmt (w2 s (20 + u.size)) = true := by rw [← w2_in s (20 + u.size) (by omega), c2]; exact hv.form1
 have r1 : readM (s.extract 20 s.size) = (U, 0) := by rw [c1]; exact hu.more v
 have r2 : readM (s.extract (20 + u.size) s.size) = (V, 0) := by rw [c2]; exact hv.self
 have t1 : (20 : Int).toNat = 20 := rfl
 have t2 : (20 + (u.size : Int)).toNat = 20 + u.size := by omega
 rw [← hs]
 rcases hfg with ⟨rfl, rfl⟩ | ⟨rfl, rfl⟩
 · rw [two_rec hp hq hx hy (by omega) (by omega) (u ++ v) s hs (by rw [t1]; omega) (by rw [t2]; omega) (by rw [t1]; exact w1) (by rw [t2]; exact w2_), t1, t2, r1, r2, if_pos rfl, if_neg (show ¬ (20 + (u.size : Int) = 20) by omega)]
 · rw [two_rec hp hq hx hy (by omega) (by omega) (u ++ v) s hs (by rw [t2]; omega) (by rw [t1]; omega) (by rw [t2]; exact w2_) (by rw [t1]; exact w1), t1, t2, r1, r2, if_pos rfl, if_neg (show ¬ (20 + (u.size : Int) = 20) by omega)]
theorem headR_bytes (p q f x y g : Int) : ((((((((⟨#[0, 0, 0, 2]⟩ : ByteArray) ++ (⟨(bytesN p 2).toArray⟩ : ByteArray)) ++ (⟨(bytesN q 2).toArray⟩ : ByteArray)) ++ (⟨(bytesN f 4).toArray⟩ : ByteArray)) ++ (⟨(bytesN x 2).toArray⟩ : ByteArray)) ++ (⟨(bytesN y 2).toArray⟩ : ByteArray)) ++ (⟨(bytesN g 4).toArray⟩ : ByteArray))) = (⟨(headR p q f x y g).toArray⟩ : ByteArray) := by
 have e : (⟨#[0, 0, 0, 2]⟩ : ByteArray) = ⟨(bytesN 0 2 ++ bytesN 2 2).toArray⟩ := by kernel_rfl
 rw [e]
 simp only [ba_join]
 unfold headR
 simp only [List.append_assoc, List.append_nil]
end Go.Proofs.Ytejdflndgnpkcaa.P
end
section
namespace Go.Proofs.Ytejdflndgnpkcaa.P
open Go.RowKit Go.Proofs.YtejdflndgnpkcaaW.PrintWords Go.Proofs.YtejdflndgnpkcaaW.PrintLast Go.Proofs.YtejdflndgnpkcaaW.PrintMore
theorem one_C (w : World) (x : S50) : Kd.C k50 (w.alloc (.cells #[.int .i64 x.f0, .int .i64 x.f1, .int .i64 x.f2, .int .i64 x.f3] 50)) (some ⟨w.heap.size, 0, none⟩) 1 [x] := by
 have hc := heap_alloc_new w (.cells #[.int .i64 x.f0, .int .i64 x.f1, .int .i64 x.f2, .int .i64 x.f3] 50)
 refine ⟨rfl, by decide, fun _ => ⟨_, rfl, fun j q hj => ?_⟩⟩
 match j, hj with
 | 0, hj =>
  have hq : x = q := by simpa using hj
  subst hq
  refine ⟨[.int .i64 x.f0, .int .i64 x.f1, .int .i64 x.f2, .int .i64 x.f3], rfl, k50_mk _ x, fun i u hu => ?_⟩
  match i, hu with
  | 0, hu => rw [← (show Value.int .i64 x.f0 = u by simpa using hu)]; exact (blk_cell hc 0).trans rfl
  | 1, hu => rw [← (show Value.int .i64 x.f1 = u by simpa using hu)]; exact (blk_cell hc 1).trans rfl
  | 2, hu => rw [← (show Value.int .i64 x.f2 = u by simpa using hu)]; exact (blk_cell hc 2).trans rfl
  | 3, hu => rw [← (show Value.int .i64 x.f3 = u by simpa using hu)]; exact (blk_cell hc 3).trans rfl
  | n + 4, hu => simp at hu
 | n + 1, hj => simp at hj
def vinculumlaw11_mapped.f : Option Bool := some true
set_option maxRecDepth 100000 in
set_option maxHeartbeats 4000000 in
theorem vinculumlaw11_mapped.calls (r : Bool) (w : World) (h : vinculumlaw11_mapped.f = some r) :
  Calls Try.prog 8 #[] w fun e w' => e = .returned (.bool r) ∧ Below w.heap.size w w' := by
 obtain rfl := Option.some.inj h
 clear h
 obtain ⟨M, _, _, hB, _, hg, _⟩ := put_back c0_put
 have hl : ∀ c g, cmap_Glyph.f M c g = some (glyM C0 c g) := fun c g => by
  rw [glyph_told]
  unfold glyM
  rw [hB.j, hB.i, hB.k c]
 have g1 : glyM C0 66 5 = (4, 0) := by decide +kernel
 have g2 : glyM C0 67 5 = (0, 10) := by decide +kernel
 have g3 : glyM C0 66 4 = (0, 10) := by decide +kernel
 have H1 := Lib.hid ((hl 66 5).trans (congrArg some g1))
 have H2 := Lib.hid ((hl 67 5).trans (congrArg some g2))
 have H3 := Lib.hid ((hl 66 4).trans (congrArg some g3))
 have HP := Lib.hid (show cmap_Put.f C0 4 = some ((putM C0 4).1, 0) by show some (putM C0 4) = _; rw [← c0_put])
 have HG := Lib.hid (show cmap_Get.f (putM C0 4).1 = some (M, 0) by show some (getM (putM C0 4).1) = _; rw [hg])
 have HZ := Lib.hid (show cmap_Get.f (⟨#[0, 0, 0, 0]⟩ : ByteArray) = some ([], 6) by kernel_rfl)
 have B1 := Lib.hid ((best_told 3 10 20 (Nat.le_refl _)).trans (show some (bestP 3 10) = some 9 by decide))
 have B2 := Lib.hid ((best_told 2 0 20 (Nat.le_refl _)).trans (show some (bestP 2 0) = some 0 by decide))
 obtain ⟨s, hs⟩ : ∃ s, s = (putM C0 4).1 := ⟨_, rfl⟩
 rw [← hs] at HP HG
 clear hB hg hl g1 g2 g3 hs
 go_enter Try.func8, Try.ntmps8
 go_wp2_with fail
 have C1 := one_C w ⟨65, 66, 3, 1⟩
 refine (cmap_Put.calls _ 1 C0 4 s 0 _ C1 (Nat.le_refl _) HP.out).mono ?_
 rintro e w1 ⟨rfl, hb⟩
 have HB1 := Lib.hid ((below_alloc (Below.refl w.heap.size w) _).trans (hb.mono (by simp)))
 clear hb C1
 go_wp2_with fail
 refine (cmap_Get.calls s M 0 w1 HG.out).mono ?_
 rintro e w2 ⟨v, rfl, hr, hb⟩
 obtain ⟨A2, k2, rfl⟩ := Kd.R_slice hr
 obtain ⟨_, _, e0, hk2, C2⟩ := Kd.R_reads hr
 injection e0 with e1 e2 e3
 subst e1
 subst e3
 have HB2 := Lib.hid (HB1.out.trans (hb.mono HB1.out.size))
 have HC2 := Lib.hid C2
 have HK2 := Lib.hid hk2
 clear hr hb C2 hk2 e2
 go_wp2_with fail
 refine (cmap_Glyph.calls A2 k2 M 66 5 4 0 w2 HC2.out HK2.out H1.out).mono ?_
 rintro e w3 ⟨rfl, hb⟩
 have HB3 := Lib.hid (HB2.out.trans (hb.mono HB2.out.size))
 have HC3 := Lib.hid (Kd.C_below HC2.out hb)
 clear hb HC2
 go_wp2_with fail
 refine (cmap_Glyph.calls A2 k2 M 67 5 0 10 w3 HC3.out HK2.out H2.out).mono ?_
 rintro e w4 ⟨rfl, hb⟩
 have HB4 := Lib.hid (HB3.out.trans (hb.mono HB3.out.size))
 have HC4 := Lib.hid (Kd.C_below HC3.out hb)
 clear hb HC3
 go_wp2_with fail
 refine (cmap_Glyph.calls A2 k2 M 66 4 0 10 w4 HC4.out HK2.out H3.out).mono ?_
 rintro e w5 ⟨rfl, hb⟩
 have HB5 := Lib.hid (HB4.out.trans (hb.mono HB4.out.size))
 clear hb HC4 HK2
 go_wp2_with fail
 refine (cmap_Get.calls _ [] 6 w5 HZ.out).mono ?_
 rintro e w6 ⟨v, rfl, hr, hb⟩
 obtain ⟨A6, k6, rfl⟩ := Kd.R_slice hr
 have HB6 := Lib.hid (HB5.out.trans (hb.mono HB5.out.size))
 clear hr hb
 go_wp2_with fail
 refine (cmap_Best.calls 20 3 10 9 w6 B1.out).mono ?_
 rintro e w7 ⟨rfl, hb⟩
 have HB7 := Lib.hid (HB6.out.trans (hb.mono HB6.out.size))
 clear hb
 go_wp2_with fail
 refine (cmap_Best.calls 20 2 0 0 w7 B2.out).mono ?_
 rintro e w8 ⟨rfl, hb⟩
 have HB8 := Lib.hid (HB7.out.trans (hb.mono HB7.out.size))
 clear hb
 go_wp2
 go_ret
 exact ⟨rfl, HB8.out⟩
end Go.Proofs.Ytejdflndgnpkcaa.P
end
section
namespace Go.Proofs.Ytejdflndgnpkcaa.P
open Go.RowKit Go.Proofs.YtejdflndgnpkcaaW.PrintWords Go.Proofs.YtejdflndgnpkcaaW.PrintLast Go.Proofs.YtejdflndgnpkcaaW.PrintMore
attribute [local go_sem] max2_int min2_int max_two min_two max_three min_three max_four min_four
mutual
def vinculumlaw11_CmapRecords.j0 : Nat → List (S50) → List (S50) → Int → Int → Int → Int → Bool → Bool → Option (Bool)
 | 0, _, _, _, _, _, _, _, _ => none
 | k + 1, x0, x1, x2, x3, x4, x5, x6, x68 => if x68 = true then (some true) else ((cmap_Put.f x0 12).bind fun bt260 => ((cmap_Put.f x1 13).bind fun bt262 => (if bt260.2 = 0 then (if bt262.2 = 0 then (if (bt260.1.size : Int) < 28 then (vinculumlaw11_CmapRecords.j1 k x2 x3 x4 x5 x6 bt260.1 bt260.2 bt262.1 bt262.2 true) else (vinculumlaw11_CmapRecords.j1 k x2 x3 x4 x5 x6 bt260.1 bt260.2 bt262.1 bt262.2 (decide ((bt262.1.size : Int) < 28)))) else (vinculumlaw11_CmapRecords.j1 k x2 x3 x4 x5 x6 bt260.1 bt260.2 bt262.1 bt262.2 true)) else (vinculumlaw11_CmapRecords.j1 k x2 x3 x4 x5 x6 bt260.1 bt260.2 bt262.1 bt262.2 true))))
def vinculumlaw11_CmapRecords.j1 : Nat → Int → Int → Int → Int → Bool → ByteArray → Int → ByteArray → Int → Bool → Option (Bool)
 | 0, _, _, _, _, _, _, _, _, _, _ => none
 | k + 1, x2, x3, x4, x5, x6, x15, x16, x17, x18, x94 => if x94 = true then ((vinculumlaw11_mapped.f).bind fun t264 => (if t264 = true then (if x16 = 0 then (some (x18 != 0)) else (some true)) else (some false))) else (if 12 ≤ (x15.size : Int) then (if 12 ≤ (x17.size : Int) then (if (x15.extract 12 x15.size).size + (x17.extract 12 x17.size).size ≤ 9223372036854775807 then (if x6 = true then (if (x17.extract 12 x17.size).size + (x15.extract 12 x15.size).size ≤ 9223372036854775807 then (vinculumlaw11_CmapRecords.j2 k x2 x3 x4 x5 (x15.extract 12 x15.size) (x17.extract 12 x17.size) (wrap64 (20 + ((x17.extract 12 x17.size).size : Int))) 20 ((x17.extract 12 x17.size) ++ (x15.extract 12 x15.size))) else (none)) else (vinculumlaw11_CmapRecords.j2 k x2 x3 x4 x5 (x15.extract 12 x15.size) (x17.extract 12 x17.size) 20 (wrap64 (20 + ((x15.extract 12 x15.size).size : Int))) ((x15.extract 12 x15.size) ++ (x17.extract 12 x17.size)))) else (none)) else (none)) else (none))
def vinculumlaw11_CmapRecords.j2 : Nat → Int → Int → Int → Int → ByteArray → ByteArray → Int → Int → ByteArray → Option (Bool)
 | 0, _, _, _, _, _, _, _, _, _ => none
 | k + 1, x2, x3, x4, x5, x15, x17, x19, x20, x21 => (vinculumref03_Bytes.f k x2 2).bind fun t265 => (if 4 + t265.size ≤ 9223372036854775807 then ((vinculumref03_Bytes.f k x3 2).bind fun t266 => (if ((⟨#[0, 0, 0, 2]⟩ : ByteArray) ++ t265).size + t266.size ≤ 9223372036854775807 then ((vinculumref03_Bytes.f k x19 4).bind fun t267 => (if (((⟨#[0, 0, 0, 2]⟩ : ByteArray) ++ t265) ++ t266).size + t267.size ≤ 9223372036854775807 then ((vinculumref03_Bytes.f k x4 2).bind fun t268 => (if ((((⟨#[0, 0, 0, 2]⟩ : ByteArray) ++ t265) ++ t266) ++ t267).size + t268.size ≤ 9223372036854775807 then ((vinculumref03_Bytes.f k x5 2).bind fun t269 => (if (((((⟨#[0, 0, 0, 2]⟩ : ByteArray) ++ t265) ++ t266) ++ t267) ++ t268).size + t269.size ≤ 9223372036854775807 then ((vinculumref03_Bytes.f k x20 4).bind fun t270 => (if ((((((⟨#[0, 0, 0, 2]⟩ : ByteArray) ++ t265) ++ t266) ++ t267) ++ t268) ++ t269).size + t270.size ≤ 9223372036854775807 then (if (((((((⟨#[0, 0, 0, 2]⟩ : ByteArray) ++ t265) ++ t266) ++ t267) ++ t268) ++ t269) ++ t270).size + x21.size ≤ 9223372036854775807 then ((cmap_Get.f ((((((((⟨#[0, 0, 0, 2]⟩ : ByteArray) ++ t265) ++ t266) ++ t267) ++ t268) ++ t269) ++ t270) ++ x21)).bind fun bt271 => ((cmap_Best.f k x2 x3).bind fun t275 => ((cmap_Best.f k x4 x5).bind fun t276 => (if t275 = 0 then (vinculumlaw11_CmapRecords.j3 k x15 x17 bt271.1 bt271.2 t275 t276 (t276 == 0)) else (vinculumlaw11_CmapRecords.j3 k x15 x17 bt271.1 bt271.2 t275 t276 false))))) else (none)) else (none))) else (none))) else (none))) else (none))) else (none))) else (none))
def vinculumlaw11_CmapRecords.j3 : Nat → ByteArray → ByteArray → List (S50) → Int → Int → Int → Bool → Option (Bool)
 | 0, _, _, _, _, _, _, _ => none
 | k + 1, x15, x17, x23, x24, x25, x26, x157 => if x157 = true then ((vinculumlaw11_mapped.f).bind fun t277 => (if t277 = true then (if x24 = 6 then (some ((x23.length : Int) == 0)) else (some false)) else (some false))) else ((cmap_Read.f x15).bind fun bt278 => (if x26 > x25 then ((cmap_Read.f x17).bind fun bt282 => ((vinculumlaw11_mapped.f).bind fun t286 => (if t286 = true then (if x24 = 0 then (if bt282.2 = 0 then ((vinculumref08_Same.f k x23 bt282.1).bind fun t287 => (some t287)) else (some false)) else (some false)) else (some false)))) else ((vinculumlaw11_mapped.f).bind fun t288 => (if t288 = true then (if x24 = 0 then (if bt278.2 = 0 then ((vinculumref08_Same.f k x23 bt278.1).bind fun t289 => (some t289)) else (some false)) else (some false)) else (some false)))))
end
def vinculumlaw11_CmapRecords.f (k : Nat) (l0 : List (S50)) (l1 : List (S50)) (a2 : Int) (a3 : Int) (a4 : Int) (a5 : Int) (a6 : Bool) : Option (Bool) := (vinculumref11_Short.f k l0).bind fun t258 => (if t258 = true then ((vinculumref11_Short.f k l1).bind fun t259 => (if t259 = true then (if a2 < 0 then (vinculumlaw11_CmapRecords.j0 k l0 l1 a2 a3 a4 a5 a6 true) else (if a3 < 0 then (vinculumlaw11_CmapRecords.j0 k l0 l1 a2 a3 a4 a5 a6 true) else (if a4 < 0 then (vinculumlaw11_CmapRecords.j0 k l0 l1 a2 a3 a4 a5 a6 true) else (if a5 < 0 then (vinculumlaw11_CmapRecords.j0 k l0 l1 a2 a3 a4 a5 a6 true) else (if a2 > 65535 then (vinculumlaw11_CmapRecords.j0 k l0 l1 a2 a3 a4 a5 a6 true) else (if a3 > 65535 then (vinculumlaw11_CmapRecords.j0 k l0 l1 a2 a3 a4 a5 a6 true) else (if a4 > 65535 then (vinculumlaw11_CmapRecords.j0 k l0 l1 a2 a3 a4 a5 a6 true) else (vinculumlaw11_CmapRecords.j0 k l0 l1 a2 a3 a4 a5 a6 (decide (a5 > 65535)))))))))) else (vinculumlaw11_CmapRecords.j0 k l0 l1 a2 a3 a4 a5 a6 true))) else (vinculumlaw11_CmapRecords.j0 k l0 l1 a2 a3 a4 a5 a6 true))
set_option maxHeartbeats 8000000 in
set_option maxRecDepth 100000 in
theorem vinculumlaw11_CmapRecords.calls (k : Nat) (A0 : Option Addr) (c0 : Nat) (l0 : List (S50)) (A1 : Option Addr) (c1 : Nat) (l1 : List (S50)) (a2 : Int) (a3 : Int) (a4 : Int) (a5 : Int) (a6 : Bool) (r : Bool) (w : World) (hr0 : Kd.C k50 w A0 l0.length l0) (hc0 : l0.length ≤ c0) (hr1 : Kd.C k50 w A1 l1.length l1) (hc1 : l1.length ≤ c1) (h : vinculumlaw11_CmapRecords.f k l0 l1 a2 a3 a4 a5 a6 = some r) :
  Calls Try.prog 4 #[.slice A0 l0.length c0, .slice A1 l1.length c1, .int .i64 a2, .int .i64 a3, .int .i64 a4, .int .i64 a5, .bool a6] w fun e w' => e = .returned (.bool r) ∧ Below w.heap.size w w' := by
 have HR0 := Aside0.mk hr0
 have HC0 := Aside0.mk hc0
 clear hr0 hc0
 have HR1 := Aside0.mk hr1
 have HC1 := Aside0.mk hc1
 clear hr1 hc1
 have HB := Aside0.mk (Below.refl w.heap.size w)
 have H : ((vinculumref11_Short.f k l0).bind fun t258 => (if t258 = true then ((vinculumref11_Short.f k l1).bind fun t259 => (if t259 = true then (if a2 < 0 then (vinculumlaw11_CmapRecords.j0 k l0 l1 a2 a3 a4 a5 a6 true) else (if a3 < 0 then (vinculumlaw11_CmapRecords.j0 k l0 l1 a2 a3 a4 a5 a6 true) else (if a4 < 0 then (vinculumlaw11_CmapRecords.j0 k l0 l1 a2 a3 a4 a5 a6 true) else (if a5 < 0 then (vinculumlaw11_CmapRecords.j0 k l0 l1 a2 a3 a4 a5 a6 true) else (if a2 > 65535 then (vinculumlaw11_CmapRecords.j0 k l0 l1 a2 a3 a4 a5 a6 true) else (if a3 > 65535 then (vinculumlaw11_CmapRecords.j0 k l0 l1 a2 a3 a4 a5 a6 true) else (if a4 > 65535 then (vinculumlaw11_CmapRecords.j0 k l0 l1 a2 a3 a4 a5 a6 true) else (vinculumlaw11_CmapRecords.j0 k l0 l1 a2 a3 a4 a5 a6 (decide (a5 > 65535)))))))))) else (vinculumlaw11_CmapRecords.j0 k l0 l1 a2 a3 a4 a5 a6 true))) else (vinculumlaw11_CmapRecords.j0 k l0 l1 a2 a3 a4 a5 a6 true))) = some r := h
 clear h
 have HC8 := Aside0.mk H
 clear H
 go_enter Try.func4, Try.ntmps4
 go_upto_region 1 with (fail)
 go_cut [68] (fun v68 wc => ∃ (kq : Nat) (x68_7 : Bool), v68 = .bool x68_7 ∧ Aside0 (vinculumlaw11_CmapRecords.j0 kq l0 l1 a2 a3 a4 a5 a6 x68_7 = some r) ∧ Aside0 (kq ≤ k) ∧ Aside0 (Below w.heap.size w wc))
 case first =>
  have H := HC8.out
  clear HC8
  replace H := Option.bind_eq_some_iff.mp H
  obtain ⟨t258, A90, H⟩ := H
  try dsimp only at H
  have A9 := Aside0.mk A90
  clear A90
  by_cases c10 : t258 = true
  ·
   subst c10
   rw [if_pos rfl] at H
   replace H := Option.bind_eq_some_iff.mp H
   obtain ⟨t259, A110, H⟩ := H
   try dsimp only at H
   have A11 := Aside0.mk A110
   clear A110
   by_cases c12 : t259 = true
   ·
    subst c12
    rw [if_pos rfl] at H
    by_cases c13 : a2 < 0
    ·
     rw [if_pos c13] at H
     have c13b0 : decide (a2 < 0) = true := decide_eq_true c13
     clear c13
     (first | rw [c13b0] | (simp only [i64_w, i32_w]; rw [c13b0]) | skip)
     as_aux_lemma =>
      have H' := Aside0.mk H
      clear H
      go_wp2_with (first | ((with_reducible refine gate_callee (f := 6) rfl ?_); refine gL_ 30 Try.func6 #[.slice A0 l0.length c0] ?_; (with_reducible refine (vinculumref11_Short.calls k _ _ l0 true _ ?side1 ?side2 A9.out).mono ?_); (case side1 => repeat (first | exact (Kd.C_below HR0.out HB.out) | (with_reducible refine Kd.C_alloc ?_ _) | (with_reducible refine Kd.C_drewN ?_ _) | (with_reducible refine Kd.C_drew ?_))); (case side2 => exact HC0.out); rintro e w14 ⟨rfl, hb⟩; refine ⟨_, rfl, ?_⟩; have n0_ := Aside0.mk (below_step bA hb); clear HB; have HB := n0_; clear n0_; (try clear hb)) | (go_at_call 6; (with_reducible refine (vinculumref11_Short.calls k _ _ l1 true _ ?side1 ?side2 A11.out).mono ?_); (case side1 => repeat (first | exact (Kd.C_below HR1.out HB.out) | (with_reducible refine Kd.C_alloc ?_ _) | (with_reducible refine Kd.C_drewN ?_ _) | (with_reducible refine Kd.C_drew ?_))); (case side2 => exact HC1.out); rintro e w15 ⟨rfl, hb⟩; have n0_ := Aside0.mk (below_step bA hb); clear HB; have HB := n0_; clear n0_; (try clear hb)))
      go_meet
      case rel => exact ⟨_, (true), gA, H', ⟨by first | omega | exact Nat.le_refl _⟩, ⟨bA⟩⟩
    ·
     rw [if_neg c13] at H
     have c13b0 : decide (a2 < 0) = false := decide_eq_false c13
     clear c13
     (first | rw [c13b0] | (simp only [i64_w, i32_w]; rw [c13b0]) | skip)
     by_cases c16 : a3 < 0
     ·
      rw [if_pos c16] at H
      have c16b0 : decide (a3 < 0) = true := decide_eq_true c16
      clear c16
      as_aux_lemma =>
       have H' := Aside0.mk H
       clear H
       go_wp2_with (first | ((with_reducible refine gate_callee (f := 6) rfl ?_); refine gL_ 30 Try.func6 #[.slice A0 l0.length c0] ?_; (with_reducible refine (vinculumref11_Short.calls k _ _ l0 true _ ?side1 ?side2 A9.out).mono ?_); (case side1 => repeat (first | exact (Kd.C_below HR0.out HB.out) | (with_reducible refine Kd.C_alloc ?_ _) | (with_reducible refine Kd.C_drewN ?_ _) | (with_reducible refine Kd.C_drew ?_))); (case side2 => exact HC0.out); rintro e w17 ⟨rfl, hb⟩; refine ⟨_, rfl, ?_⟩; have n0_ := Aside0.mk (below_step bA hb); clear HB; have HB := n0_; clear n0_; (try clear hb)) | (go_at_call 6; (with_reducible refine (vinculumref11_Short.calls k _ _ l1 true _ ?side1 ?side2 A11.out).mono ?_); (case side1 => repeat (first | exact (Kd.C_below HR1.out HB.out) | (with_reducible refine Kd.C_alloc ?_ _) | (with_reducible refine Kd.C_drewN ?_ _) | (with_reducible refine Kd.C_drew ?_))); (case side2 => exact HC1.out); rintro e w18 ⟨rfl, hb⟩; have n0_ := Aside0.mk (below_step bA hb); clear HB; have HB := n0_; clear n0_; (try clear hb)))
       go_meet
       case rel => exact ⟨_, (true), gA, H', ⟨by first | omega | exact Nat.le_refl _⟩, ⟨bA⟩⟩
     ·
      rw [if_neg c16] at H
      have c16b0 : decide (a3 < 0) = false := decide_eq_false c16
      clear c16
      by_cases c19 : a4 < 0
      ·
       rw [if_pos c19] at H
       have c19b0 : decide (a4 < 0) = true := decide_eq_true c19
       clear c19
       as_aux_lemma =>
        have H' := Aside0.mk H
        clear H
        go_wp2_with (first | ((with_reducible refine gate_callee (f := 6) rfl ?_); refine gL_ 30 Try.func6 #[.slice A0 l0.length c0] ?_; (with_reducible refine (vinculumref11_Short.calls k _ _ l0 true _ ?side1 ?side2 A9.out).mono ?_); (case side1 => repeat (first | exact (Kd.C_below HR0.out HB.out) | (with_reducible refine Kd.C_alloc ?_ _) | (with_reducible refine Kd.C_drewN ?_ _) | (with_reducible refine Kd.C_drew ?_))); (case side2 => exact HC0.out); rintro e w20 ⟨rfl, hb⟩; refine ⟨_, rfl, ?_⟩; have n0_ := Aside0.mk (below_step bA hb); clear HB; have HB := n0_; clear n0_; (try clear hb)) | (go_at_call 6; (with_reducible refine (vinculumref11_Short.calls k _ _ l1 true _ ?side1 ?side2 A11.out).mono ?_); (case side1 => repeat (first | exact (Kd.C_below HR1.out HB.out) | (with_reducible refine Kd.C_alloc ?_ _) | (with_reducible refine Kd.C_drewN ?_ _) | (with_reducible refine Kd.C_drew ?_))); (case side2 => exact HC1.out); rintro e w21 ⟨rfl, hb⟩; have n0_ := Aside0.mk (below_step bA hb); clear HB; have HB := n0_; clear n0_; (try clear hb)))
        go_meet
        case rel => exact ⟨_, (true), gA, H', ⟨by first | omega | exact Nat.le_refl _⟩, ⟨bA⟩⟩
      ·
       rw [if_neg c19] at H
       have c19b0 : decide (a4 < 0) = false := decide_eq_false c19
       clear c19
       by_cases c22 : a5 < 0
       ·
        rw [if_pos c22] at H
        have c22b0 : decide (a5 < 0) = true := decide_eq_true c22
        clear c22
        as_aux_lemma =>
         have H' := Aside0.mk H
         clear H
         go_wp2_with (first | ((with_reducible refine gate_callee (f := 6) rfl ?_); refine gL_ 30 Try.func6 #[.slice A0 l0.length c0] ?_; (with_reducible refine (vinculumref11_Short.calls k _ _ l0 true _ ?side1 ?side2 A9.out).mono ?_); (case side1 => repeat (first | exact (Kd.C_below HR0.out HB.out) | (with_reducible refine Kd.C_alloc ?_ _) | (with_reducible refine Kd.C_drewN ?_ _) | (with_reducible refine Kd.C_drew ?_))); (case side2 => exact HC0.out); rintro e w23 ⟨rfl, hb⟩; refine ⟨_, rfl, ?_⟩; have n0_ := Aside0.mk (below_step bA hb); clear HB; have HB := n0_; clear n0_; (try clear hb)) | (go_at_call 6; (with_reducible refine (vinculumref11_Short.calls k _ _ l1 true _ ?side1 ?side2 A11.out).mono ?_); (case side1 => repeat (first | exact (Kd.C_below HR1.out HB.out) | (with_reducible refine Kd.C_alloc ?_ _) | (with_reducible refine Kd.C_drewN ?_ _) | (with_reducible refine Kd.C_drew ?_))); (case side2 => exact HC1.out); rintro e w24 ⟨rfl, hb⟩; have n0_ := Aside0.mk (below_step bA hb); clear HB; have HB := n0_; clear n0_; (try clear hb)))
         go_meet
         case rel => exact ⟨_, (true), gA, H', ⟨by first | omega | exact Nat.le_refl _⟩, ⟨bA⟩⟩
       ·
        rw [if_neg c22] at H
        have c22b0 : decide (a5 < 0) = false := decide_eq_false c22
        clear c22
        by_cases c25 : a2 > 65535
        ·
         rw [if_pos c25] at H
         have c25b0 : decide (65535 < a2) = true := decide_eq_true c25
         clear c25
         as_aux_lemma =>
          have H' := Aside0.mk H
          clear H
          go_wp2_with (first | ((with_reducible refine gate_callee (f := 6) rfl ?_); refine gL_ 30 Try.func6 #[.slice A0 l0.length c0] ?_; (with_reducible refine (vinculumref11_Short.calls k _ _ l0 true _ ?side1 ?side2 A9.out).mono ?_); (case side1 => repeat (first | exact (Kd.C_below HR0.out HB.out) | (with_reducible refine Kd.C_alloc ?_ _) | (with_reducible refine Kd.C_drewN ?_ _) | (with_reducible refine Kd.C_drew ?_))); (case side2 => exact HC0.out); rintro e w26 ⟨rfl, hb⟩; refine ⟨_, rfl, ?_⟩; have n0_ := Aside0.mk (below_step bA hb); clear HB; have HB := n0_; clear n0_; (try clear hb)) | (go_at_call 6; (with_reducible refine (vinculumref11_Short.calls k _ _ l1 true _ ?side1 ?side2 A11.out).mono ?_); (case side1 => repeat (first | exact (Kd.C_below HR1.out HB.out) | (with_reducible refine Kd.C_alloc ?_ _) | (with_reducible refine Kd.C_drewN ?_ _) | (with_reducible refine Kd.C_drew ?_))); (case side2 => exact HC1.out); rintro e w27 ⟨rfl, hb⟩; have n0_ := Aside0.mk (below_step bA hb); clear HB; have HB := n0_; clear n0_; (try clear hb)))
          go_meet
          case rel => exact ⟨_, (true), gA, H', ⟨by first | omega | exact Nat.le_refl _⟩, ⟨bA⟩⟩
        ·
         rw [if_neg c25] at H
         have c25b0 : decide (65535 < a2) = false := decide_eq_false c25
         clear c25
         by_cases c28 : a3 > 65535
         ·
          rw [if_pos c28] at H
          have c28b0 : decide (65535 < a3) = true := decide_eq_true c28
          clear c28
          as_aux_lemma =>
           have H' := Aside0.mk H
           clear H
           go_wp2_with (first | ((with_reducible refine gate_callee (f := 6) rfl ?_); refine gL_ 30 Try.func6 #[.slice A0 l0.length c0] ?_; (with_reducible refine (vinculumref11_Short.calls k _ _ l0 true _ ?side1 ?side2 A9.out).mono ?_); (case side1 => repeat (first | exact (Kd.C_below HR0.out HB.out) | (with_reducible refine Kd.C_alloc ?_ _) | (with_reducible refine Kd.C_drewN ?_ _) | (with_reducible refine Kd.C_drew ?_))); (case side2 => exact HC0.out); rintro e w29 ⟨rfl, hb⟩; refine ⟨_, rfl, ?_⟩; have n0_ := Aside0.mk (below_step bA hb); clear HB; have HB := n0_; clear n0_; (try clear hb)) | (go_at_call 6; (with_reducible refine (vinculumref11_Short.calls k _ _ l1 true _ ?side1 ?side2 A11.out).mono ?_); (case side1 => repeat (first | exact (Kd.C_below HR1.out HB.out) | (with_reducible refine Kd.C_alloc ?_ _) | (with_reducible refine Kd.C_drewN ?_ _) | (with_reducible refine Kd.C_drew ?_))); (case side2 => exact HC1.out); rintro e w30 ⟨rfl, hb⟩; have n0_ := Aside0.mk (below_step bA hb); clear HB; have HB := n0_; clear n0_; (try clear hb)))
           go_meet
           case rel => exact ⟨_, (true), gA, H', ⟨by first | omega | exact Nat.le_refl _⟩, ⟨bA⟩⟩
         ·
          rw [if_neg c28] at H
          have c28b0 : decide (65535 < a3) = false := decide_eq_false c28
          clear c28
          by_cases c31 : a4 > 65535
          ·
           rw [if_pos c31] at H
           have c31b0 : decide (65535 < a4) = true := decide_eq_true c31
           clear c31
           as_aux_lemma =>
            have H' := Aside0.mk H
            clear H
            go_wp2_with (first | ((with_reducible refine gate_callee (f := 6) rfl ?_); refine gL_ 30 Try.func6 #[.slice A0 l0.length c0] ?_; (with_reducible refine (vinculumref11_Short.calls k _ _ l0 true _ ?side1 ?side2 A9.out).mono ?_); (case side1 => repeat (first | exact (Kd.C_below HR0.out HB.out) | (with_reducible refine Kd.C_alloc ?_ _) | (with_reducible refine Kd.C_drewN ?_ _) | (with_reducible refine Kd.C_drew ?_))); (case side2 => exact HC0.out); rintro e w32 ⟨rfl, hb⟩; refine ⟨_, rfl, ?_⟩; have n0_ := Aside0.mk (below_step bA hb); clear HB; have HB := n0_; clear n0_; (try clear hb)) | (go_at_call 6; (with_reducible refine (vinculumref11_Short.calls k _ _ l1 true _ ?side1 ?side2 A11.out).mono ?_); (case side1 => repeat (first | exact (Kd.C_below HR1.out HB.out) | (with_reducible refine Kd.C_alloc ?_ _) | (with_reducible refine Kd.C_drewN ?_ _) | (with_reducible refine Kd.C_drew ?_))); (case side2 => exact HC1.out); rintro e w33 ⟨rfl, hb⟩; have n0_ := Aside0.mk (below_step bA hb); clear HB; have HB := n0_; clear n0_; (try clear hb)))
            go_meet
            case rel => exact ⟨_, (true), gA, H', ⟨by first | omega | exact Nat.le_refl _⟩, ⟨bA⟩⟩
          ·
           rw [if_neg c31] at H
           have c31b0 : decide (65535 < a4) = false := decide_eq_false c31
           clear c31
           as_aux_lemma =>
            have H' := Aside0.mk H
            clear H
            go_wp2_with (first | ((with_reducible refine gate_callee (f := 6) rfl ?_); refine gL_ 30 Try.func6 #[.slice A0 l0.length c0] ?_; (with_reducible refine (vinculumref11_Short.calls k _ _ l0 true _ ?side1 ?side2 A9.out).mono ?_); (case side1 => repeat (first | exact (Kd.C_below HR0.out HB.out) | (with_reducible refine Kd.C_alloc ?_ _) | (with_reducible refine Kd.C_drewN ?_ _) | (with_reducible refine Kd.C_drew ?_))); (case side2 => exact HC0.out); rintro e w34 ⟨rfl, hb⟩; refine ⟨_, rfl, ?_⟩; have n0_ := Aside0.mk (below_step bA hb); clear HB; have HB := n0_; clear n0_; (try clear hb)) | (go_at_call 6; (with_reducible refine (vinculumref11_Short.calls k _ _ l1 true _ ?side1 ?side2 A11.out).mono ?_); (case side1 => repeat (first | exact (Kd.C_below HR1.out HB.out) | (with_reducible refine Kd.C_alloc ?_ _) | (with_reducible refine Kd.C_drewN ?_ _) | (with_reducible refine Kd.C_drew ?_))); (case side2 => exact HC1.out); rintro e w35 ⟨rfl, hb⟩; have n0_ := Aside0.mk (below_step bA hb); clear HB; have HB := n0_; clear n0_; (try clear hb)))
            go_meet
            case rel => exact ⟨_, (decide (a5 > 65535)), gA, H', ⟨by first | omega | exact Nat.le_refl _⟩, ⟨bA⟩⟩
   ·
    replace c12 := Bool.eq_false_iff.mpr c12
    subst c12
    rw [if_neg Bool.false_ne_true] at H
    as_aux_lemma =>
     have H' := Aside0.mk H
     clear H
     go_wp2_with (first | ((with_reducible refine gate_callee (f := 6) rfl ?_); refine gL_ 30 Try.func6 #[.slice A0 l0.length c0] ?_; (with_reducible refine (vinculumref11_Short.calls k _ _ l0 true _ ?side1 ?side2 A9.out).mono ?_); (case side1 => repeat (first | exact (Kd.C_below HR0.out HB.out) | (with_reducible refine Kd.C_alloc ?_ _) | (with_reducible refine Kd.C_drewN ?_ _) | (with_reducible refine Kd.C_drew ?_))); (case side2 => exact HC0.out); rintro e w36 ⟨rfl, hb⟩; refine ⟨_, rfl, ?_⟩; have n0_ := Aside0.mk (below_step bA hb); clear HB; have HB := n0_; clear n0_; (try clear hb)) | (go_at_call 6; (with_reducible refine (vinculumref11_Short.calls k _ _ l1 false _ ?side1 ?side2 A11.out).mono ?_); (case side1 => repeat (first | exact (Kd.C_below HR1.out HB.out) | (with_reducible refine Kd.C_alloc ?_ _) | (with_reducible refine Kd.C_drewN ?_ _) | (with_reducible refine Kd.C_drew ?_))); (case side2 => exact HC1.out); rintro e w37 ⟨rfl, hb⟩; have n0_ := Aside0.mk (below_step bA hb); clear HB; have HB := n0_; clear n0_; (try clear hb)))
     go_meet
     case rel => exact ⟨_, (true), gA, H', ⟨by first | omega | exact Nat.le_refl _⟩, ⟨bA⟩⟩
  ·
   replace c10 := Bool.eq_false_iff.mpr c10
   subst c10
   rw [if_neg Bool.false_ne_true] at H
   as_aux_lemma =>
    have H' := Aside0.mk H
    clear H
    go_wp2_with (first | ((with_reducible refine gate_callee (f := 6) rfl ?_); refine gL_ 30 Try.func6 #[.slice A0 l0.length c0] ?_; (with_reducible refine (vinculumref11_Short.calls k _ _ l0 false _ ?side1 ?side2 A9.out).mono ?_); (case side1 => repeat (first | exact (Kd.C_below HR0.out HB.out) | (with_reducible refine Kd.C_alloc ?_ _) | (with_reducible refine Kd.C_drewN ?_ _) | (with_reducible refine Kd.C_drew ?_))); (case side2 => exact HC0.out); rintro e w38 ⟨rfl, hb⟩; refine ⟨_, rfl, ?_⟩; have n0_ := Aside0.mk (below_step bA hb); clear HB; have HB := n0_; clear n0_; (try clear hb)))
    go_meet
    case rel => exact ⟨_, (true), gA, H', ⟨by first | omega | exact Nat.le_refl _⟩, ⟨bA⟩⟩
 case rest =>
  clear HC8
  try clear c1
  try clear c2
  try clear p2
  try clear c3
  try clear c4
  try clear c6
  try clear c10
  try clear c12
  try clear c13
  try clear c13b0
  try clear c16
  try clear c16b0
  try clear c19
  try clear c19b0
  try clear c22
  try clear c22b0
  try clear c25
  try clear c25b0
  try clear c28
  try clear c28b0
  try clear c31
  try clear c31b0
  obtain ⟨kq, x68_7, rfl, HA, HJ7, HB⟩ := hcut
  cases kq with
  | zero => exact absurd HA.out (by simp [vinculumlaw11_CmapRecords.j0])
  | succ kj7 =>
   have H := HA.out
   clear HA
   simp only [vinculumlaw11_CmapRecords.j0] at H
   by_cases c39 : x68_7 = true
   ·
    subst c39
    rw [if_pos rfl] at H
    as_aux_lemma =>
     obtain rfl := Option.some.inj H
     go_wp2
     go_ret
     exact ⟨eA, bA⟩
   ·
    replace c39 := Bool.eq_false_iff.mpr c39
    subst c39
    rw [if_neg Bool.false_ne_true] at H
    replace H := Option.bind_eq_some_iff.mp H
    obtain ⟨⟨t260, t261⟩, A400, H⟩ := H
    try dsimp only at H
    have A40 := Aside0.mk A400
    clear A400
    replace H := Option.bind_eq_some_iff.mp H
    obtain ⟨⟨t262, t263⟩, A410, H⟩ := H
    try dsimp only at H
    have A41 := Aside0.mk A410
    clear A410
    have HC42 := Aside0.mk H
    clear H
    go_upto_region 5 with (first | ((with_reducible refine gate_callee (f := 7) rfl ?_); refine gL_ 71 Try.func7 #[.slice A0 l0.length c0, .int .i64 12] ?_; (with_reducible refine (cmap_Put.calls _ _ l0 12 t260 t261 _ ?side1 ?side2 A40.out).mono ?_); (case side1 => repeat (first | exact (Kd.C_below HR0.out HB.out) | (with_reducible refine Kd.C_alloc ?_ _) | (with_reducible refine Kd.C_drewN ?_ _) | (with_reducible refine Kd.C_drew ?_))); (case side2 => exact HC0.out); rintro e w43 ⟨rfl, hb⟩; refine ⟨_, rfl, ?_⟩; have n0_ := Aside0.mk (below_step bA hb); clear HB; have HB := n0_; clear n0_; (try clear hb)) | ((with_reducible refine gate_callee (f := 7) rfl ?_); refine gL_ 76 Try.func7 #[.slice A1 l1.length c1, .int .i64 13] ?_; (with_reducible refine (cmap_Put.calls _ _ l1 13 t262 t263 _ ?side1 ?side2 A41.out).mono ?_); (case side1 => repeat (first | exact (Kd.C_below HR1.out HB.out) | (with_reducible refine Kd.C_alloc ?_ _) | (with_reducible refine Kd.C_drewN ?_ _) | (with_reducible refine Kd.C_drew ?_))); (case side2 => exact HC1.out); rintro e w44 ⟨rfl, hb⟩; refine ⟨_, rfl, ?_⟩; have n0_ := Aside0.mk (below_step bA hb); clear HB; have HB := n0_; clear n0_; (try clear hb)))
    (try simp only [Act.put, List.setIfInBounds_toArray, List.set_cons_zero, List.set_cons_succ])
    go_cut [94] (fun v94 wc => ∃ (kq : Nat) (x94_41 : Bool), v94 = .bool x94_41 ∧ Aside0 (vinculumlaw11_CmapRecords.j1 kq a2 a3 a4 a5 a6 t260 t261 t262 t263 x94_41 = some r) ∧ Aside0 (kq ≤ kj7) ∧ Aside0 (Below w.heap.size w wc))
    case first =>
     have H := HC42.out
     clear HC42
     by_cases c45 : t261 = 0
     ·
      rw [if_pos c45] at H
      have c45b0 : (t261 == 0) = true := beq_iff_eq.mpr c45
      have c45b1 : (t261 != 0) = false := bne_eq_false_iff_eq.mpr c45
      clear c45
      (first | rw [c45b0] | (simp only [i64_w, i32_w]; rw [c45b0]) | skip)
      by_cases c46 : t263 = 0
      ·
       rw [if_pos c46] at H
       have c46b0 : (t263 == 0) = true := beq_iff_eq.mpr c46
       have c46b1 : (t263 != 0) = false := bne_eq_false_iff_eq.mpr c46
       clear c46
       by_cases c47 : (t260.size : Int) < 28
       ·
        rw [if_pos c47] at H
        have c47b0 : decide ((t260.size : Int) < 28) = true := decide_eq_true c47
        have c47b1 : decide (t260.size < 28) = true := decide_eq_true (by omega)
        clear c47
        as_aux_lemma =>
         have H' := Aside0.mk H
         clear H
         go_wp2
         go_meet
         case rel => exact ⟨_, (true), gA, H', ⟨by have := HJ7.out; first | omega | exact Nat.le_refl _⟩, ⟨bA⟩⟩
       ·
        rw [if_neg c47] at H
        have c47b0 : decide ((t260.size : Int) < 28) = false := decide_eq_false c47
        have c47b1 : decide (t260.size < 28) = false := decide_eq_false (by omega)
        clear c47
        as_aux_lemma =>
         have H' := Aside0.mk H
         clear H
         go_wp2
         go_meet
         case rel => exact ⟨_, (decide ((t262.size : Int) < 28)), gA, H', ⟨by have := HJ7.out; first | omega | exact Nat.le_refl _⟩, ⟨bA⟩⟩
      ·
       rw [if_neg c46] at H
       have c46b0 : (t263 == 0) = false := beq_eq_false_iff_ne.mpr c46
       have c46b1 : (t263 != 0) = true := bne_iff_ne.mpr c46
       as_aux_lemma =>
        have H' := Aside0.mk H
        clear H
        go_wp2
        go_meet
        case rel => exact ⟨_, (true), gA, H', ⟨by have := HJ7.out; first | omega | exact Nat.le_refl _⟩, ⟨bA⟩⟩
     ·
      rw [if_neg c45] at H
      have c45b0 : (t261 == 0) = false := beq_eq_false_iff_ne.mpr c45
      have c45b1 : (t261 != 0) = true := bne_iff_ne.mpr c45
      (first | rw [c45b0] | (simp only [i64_w, i32_w]; rw [c45b0]) | skip)
      as_aux_lemma =>
       have H' := Aside0.mk H
       clear H
       go_wp2
       go_meet
       case rel => exact ⟨_, (true), gA, H', ⟨by have := HJ7.out; first | omega | exact Nat.le_refl _⟩, ⟨bA⟩⟩
    case rest =>
     clear HC42
     try clear c1
     try clear c2
     try clear p2
     try clear c3
     try clear c4
     try clear c6
     try clear c7
     try clear c10
     try clear c12
     try clear c13
     try clear c13b0
     try clear c16
     try clear c16b0
     try clear c19
     try clear c19b0
     try clear c22
     try clear c22b0
     try clear c25
     try clear c25b0
     try clear c28
     try clear c28b0
     try clear c31
     try clear c31b0
     try clear c39
     try clear c45
     try clear c45b0
     try clear c45b1
     try clear c46
     try clear c46b0
     try clear c46b1
     try clear c47
     try clear c47b0
     try clear c47b1
     try clear p2
     obtain ⟨kq, x94_41, rfl, HA, HJ41, HB⟩ := hcut
     cases kq with
     | zero => exact absurd HA.out (by simp [vinculumlaw11_CmapRecords.j1])
     | succ kj41 =>
      have H := HA.out
      clear HA
      simp only [vinculumlaw11_CmapRecords.j1] at H
      by_cases c48 : x94_41 = true
      ·
       subst c48
       rw [if_pos rfl] at H
       replace H := Option.bind_eq_some_iff.mp H
       obtain ⟨t264, A490, H⟩ := H
       try dsimp only at H
       have A49 := Aside0.mk A490
       clear A490
       by_cases c50 : t264 = true
       ·
        subst c50
        rw [if_pos rfl] at H
        by_cases c51 : t261 = 0
        ·
         rw [if_pos c51] at H
         have c51b0 : (t261 == 0) = true := beq_iff_eq.mpr c51
         have c51b1 : (t261 != 0) = false := bne_eq_false_iff_eq.mpr c51
         clear c51
         as_aux_lemma =>
          obtain rfl := Option.some.inj H
          go_wp2_with (first | ((with_reducible refine gate_callee (f := 8) rfl ?_); refine gL_ 95 Try.func8 #[] ?_; (with_reducible refine (vinculumlaw11_mapped.calls  true _ A49.out).mono ?_); rintro e w52 ⟨rfl, hb⟩; refine ⟨_, rfl, ?_⟩; have n0_ := Aside0.mk (below_step bA hb); clear HB; have HB := n0_; clear n0_; (try clear hb)))
          go_ret
          exact ⟨eA, bA⟩
        ·
         rw [if_neg c51] at H
         have c51b0 : (t261 == 0) = false := beq_eq_false_iff_ne.mpr c51
         have c51b1 : (t261 != 0) = true := bne_iff_ne.mpr c51
         as_aux_lemma =>
          obtain rfl := Option.some.inj H
          go_wp2_with (first | ((with_reducible refine gate_callee (f := 8) rfl ?_); refine gL_ 95 Try.func8 #[] ?_; (with_reducible refine (vinculumlaw11_mapped.calls  true _ A49.out).mono ?_); rintro e w53 ⟨rfl, hb⟩; refine ⟨_, rfl, ?_⟩; have n0_ := Aside0.mk (below_step bA hb); clear HB; have HB := n0_; clear n0_; (try clear hb)))
          go_ret
          exact ⟨eA, bA⟩
       ·
        replace c50 := Bool.eq_false_iff.mpr c50
        subst c50
        rw [if_neg Bool.false_ne_true] at H
        as_aux_lemma =>
         obtain rfl := Option.some.inj H
         go_wp2_with (first | ((with_reducible refine gate_callee (f := 8) rfl ?_); refine gL_ 95 Try.func8 #[] ?_; (with_reducible refine (vinculumlaw11_mapped.calls  false _ A49.out).mono ?_); rintro e w54 ⟨rfl, hb⟩; refine ⟨_, rfl, ?_⟩; have n0_ := Aside0.mk (below_step bA hb); clear HB; have HB := n0_; clear n0_; (try clear hb)))
         go_ret
         exact ⟨eA, bA⟩
      ·
       replace c48 := Bool.eq_false_iff.mpr c48
       subst c48
       rw [if_neg Bool.false_ne_true] at H
       by_cases c55 : 12 ≤ (t260.size : Int)
       ·
        rw [if_pos c55] at H
        have c55b0 := eq_true c55
        have c55b1 : decide (12 ≤ (t260.size : Int)) = true := decide_eq_true c55
        clear c55
        by_cases c56 : 12 ≤ (t262.size : Int)
        ·
         rw [if_pos c56] at H
         have c56b0 := eq_true c56
         have c56b1 : decide (12 ≤ (t262.size : Int)) = true := decide_eq_true c56
         clear c56
         by_cases c57 : (t260.extract 12 t260.size).size + (t262.extract 12 t262.size).size ≤ 9223372036854775807
         ·
          rw [if_pos c57] at H
          have c57b0 := eq_true c57
          have c57b1 : decide ((t260.extract 12 t260.size).size + (t262.extract 12 t262.size).size ≤ 9223372036854775807) = true := decide_eq_true c57
          try have c57b2 : (9223372036854775807 < (t260.extract 12 t260.size).size + (t262.extract 12 t262.size).size) = False := eq_false (Nat.not_lt.2 c57)
          have HC58 := Aside0.mk H
          clear H
          go_upto_if 114 with (fail)
          go_cut [19, 20, 21] (fun v19 v20 v21 wc => ∃ (kq : Nat) (x19_57 : Int) (x20_57 : Int) (x21_57 : ByteArray), v19 = .int .i64 x19_57 ∧ v20 = .int .i64 x20_57 ∧ v21 = .string x21_57 ∧ Aside0 (vinculumlaw11_CmapRecords.j2 kq a2 a3 a4 a5 (t260.extract 12 t260.size) (t262.extract 12 t262.size) x19_57 x20_57 x21_57 = some r) ∧ Aside0 (kq ≤ kj41) ∧ Aside0 (Below w.heap.size w wc))
          case first =>
           have H := HC58.out
           clear HC58
           by_cases c59 : a6 = true
           ·
            subst c59
            rw [if_pos rfl] at H
            by_cases c60 : (t262.extract 12 t262.size).size + (t260.extract 12 t260.size).size ≤ 9223372036854775807
            ·
             rw [if_pos c60] at H
             have c60b0 := eq_true c60
             have c60b1 : decide ((t262.extract 12 t262.size).size + (t260.extract 12 t260.size).size ≤ 9223372036854775807) = true := decide_eq_true c60
             try have c60b2 : (9223372036854775807 < (t262.extract 12 t262.size).size + (t260.extract 12 t260.size).size) = False := eq_false (Nat.not_lt.2 c60)
             as_aux_lemma =>
              have H' := Aside0.mk H
              clear H
              go_wp2
              go_meet
              case rel => exact ⟨_, (wrap64 (20 + ((t262.extract 12 t262.size).size : Int))), (20), ((t262.extract 12 t262.size) ++ (t260.extract 12 t260.size)), gA, gA, gA, H', ⟨by have := HJ7.out; have := HJ41.out; first | omega | exact Nat.le_refl _⟩, ⟨bA⟩⟩
            ·
             rw [if_neg c60] at H
             exact absurd H (by simp)
           ·
            replace c59 := Bool.eq_false_iff.mpr c59
            subst c59
            rw [if_neg Bool.false_ne_true] at H
            as_aux_lemma =>
             have H' := Aside0.mk H
             clear H
             go_wp2
             go_meet
             case rel => exact ⟨_, (20), (wrap64 (20 + ((t260.extract 12 t260.size).size : Int))), ((t260.extract 12 t260.size) ++ (t262.extract 12 t262.size)), gA, gA, gA, H', ⟨by have := HJ7.out; have := HJ41.out; first | omega | exact Nat.le_refl _⟩, ⟨bA⟩⟩
          case rest =>
           clear HC58
           try clear c1
           try clear c2
           try clear p2
           try clear c3
           try clear c4
           try clear c5
           try clear c6
           try clear p6
           try clear c7
           try clear c8
           try clear c10
           try clear c12
           try clear c13
           try clear c13b0
           try clear c16
           try clear c16b0
           try clear c19
           try clear c19b0
           try clear c22
           try clear c22b0
           try clear c25
           try clear c25b0
           try clear c28
           try clear c28b0
           try clear c31
           try clear c31b0
           try clear c39
           try clear c45
           try clear c45b0
           try clear c45b1
           try clear c46
           try clear c46b0
           try clear c46b1
           try clear c47
           try clear c47b0
           try clear c47b1
           try clear c48
           try clear c50
           try clear c51
           try clear c51b0
           try clear c51b1
           try clear c55
           try clear c55b0
           try clear c55b1
           try clear c56
           try clear c56b0
           try clear c56b1
           try clear c57
           try clear c57b0
           try clear c57b1
           try clear c57b2
           try clear c59
           try clear c60
           try clear c60b0
           try clear c60b1
           try clear c60b2
           try clear p2
           obtain ⟨kq, x19_57, x20_57, x21_57, rfl, rfl, rfl, HA, HJ57, HB⟩ := hcut
           cases kq with
           | zero => exact absurd HA.out (by simp [vinculumlaw11_CmapRecords.j2])
           | succ kj57 =>
            have H := HA.out
            clear HA
            simp only [vinculumlaw11_CmapRecords.j2] at H
            replace H := Option.bind_eq_some_iff.mp H
            obtain ⟨t265, A610, H⟩ := H
            try dsimp only at H
            have A61 := Aside0.mk A610
            clear A610
            by_cases c62 : 4 + t265.size ≤ 9223372036854775807
            ·
             rw [if_pos c62] at H
             have c62b0 := eq_true c62
             have c62b1 : decide (4 + t265.size ≤ 9223372036854775807) = true := decide_eq_true c62
             try have c62b2 : (9223372036854775807 < 4 + t265.size) = False := eq_false (Nat.not_lt.2 c62)
             replace H := Option.bind_eq_some_iff.mp H
             obtain ⟨t266, A630, H⟩ := H
             try dsimp only at H
             have A63 := Aside0.mk A630
             clear A630
             by_cases c64 : ((⟨#[0, 0, 0, 2]⟩ : ByteArray) ++ t265).size + t266.size ≤ 9223372036854775807
             ·
              rw [if_pos c64] at H
              have c64b0 := eq_true c64
              have c64b1 : decide (((⟨#[0, 0, 0, 2]⟩ : ByteArray) ++ t265).size + t266.size ≤ 9223372036854775807) = true := decide_eq_true c64
              try have c64b2 : (9223372036854775807 < ((⟨#[0, 0, 0, 2]⟩ : ByteArray) ++ t265).size + t266.size) = False := eq_false (Nat.not_lt.2 c64)
              try (have c64b3 := c64b2; simp only [ByteArray.size_append, show ∀ a b : UInt8, (⟨#[a, b]⟩ : ByteArray).size = 2 from fun _ _ => rfl, show ∀ a b c d : UInt8, (⟨#[a, b, c, d]⟩ : ByteArray).size = 4 from fun _ _ _ _ => rfl, show ∀ a b c d e f g h : UInt8, (⟨#[a, b, c, d, e, f, g, h]⟩ : ByteArray).size = 8 from fun _ _ _ _ _ _ _ _ => rfl] at c64b3)
              replace H := Option.bind_eq_some_iff.mp H
              obtain ⟨t267, A650, H⟩ := H
              try dsimp only at H
              have A65 := Aside0.mk A650
              clear A650
              by_cases c66 : (((⟨#[0, 0, 0, 2]⟩ : ByteArray) ++ t265) ++ t266).size + t267.size ≤ 9223372036854775807
              ·
               rw [if_pos c66] at H
               have c66b0 := eq_true c66
               have c66b1 : decide ((((⟨#[0, 0, 0, 2]⟩ : ByteArray) ++ t265) ++ t266).size + t267.size ≤ 9223372036854775807) = true := decide_eq_true c66
               try have c66b2 : (9223372036854775807 < (((⟨#[0, 0, 0, 2]⟩ : ByteArray) ++ t265) ++ t266).size + t267.size) = False := eq_false (Nat.not_lt.2 c66)
               try (have c66b3 := c66b2; simp only [ByteArray.size_append, show ∀ a b : UInt8, (⟨#[a, b]⟩ : ByteArray).size = 2 from fun _ _ => rfl, show ∀ a b c d : UInt8, (⟨#[a, b, c, d]⟩ : ByteArray).size = 4 from fun _ _ _ _ => rfl, show ∀ a b c d e f g h : UInt8, (⟨#[a, b, c, d, e, f, g, h]⟩ : ByteArray).size = 8 from fun _ _ _ _ _ _ _ _ => rfl] at c66b3)
               replace H := Option.bind_eq_some_iff.mp H
               obtain ⟨t268, A670, H⟩ := H
               try dsimp only at H
               have A67 := Aside0.mk A670
               clear A670
               by_cases c68 : ((((⟨#[0, 0, 0, 2]⟩ : ByteArray) ++ t265) ++ t266) ++ t267).size + t268.size ≤ 9223372036854775807
               ·
                rw [if_pos c68] at H
                have c68b0 := eq_true c68
                have c68b1 : decide (((((⟨#[0, 0, 0, 2]⟩ : ByteArray) ++ t265) ++ t266) ++ t267).size + t268.size ≤ 9223372036854775807) = true := decide_eq_true c68
                try have c68b2 : (9223372036854775807 < ((((⟨#[0, 0, 0, 2]⟩ : ByteArray) ++ t265) ++ t266) ++ t267).size + t268.size) = False := eq_false (Nat.not_lt.2 c68)
                try (have c68b3 := c68b2; simp only [ByteArray.size_append, show ∀ a b : UInt8, (⟨#[a, b]⟩ : ByteArray).size = 2 from fun _ _ => rfl, show ∀ a b c d : UInt8, (⟨#[a, b, c, d]⟩ : ByteArray).size = 4 from fun _ _ _ _ => rfl, show ∀ a b c d e f g h : UInt8, (⟨#[a, b, c, d, e, f, g, h]⟩ : ByteArray).size = 8 from fun _ _ _ _ _ _ _ _ => rfl] at c68b3)
                replace H := Option.bind_eq_some_iff.mp H
                obtain ⟨t269, A690, H⟩ := H
                try dsimp only at H
                have A69 := Aside0.mk A690
                clear A690
                by_cases c70 : (((((⟨#[0, 0, 0, 2]⟩ : ByteArray) ++ t265) ++ t266) ++ t267) ++ t268).size + t269.size ≤ 9223372036854775807
                ·
                 rw [if_pos c70] at H
                 have c70b0 := eq_true c70
                 have c70b1 : decide ((((((⟨#[0, 0, 0, 2]⟩ : ByteArray) ++ t265) ++ t266) ++ t267) ++ t268).size + t269.size ≤ 9223372036854775807) = true := decide_eq_true c70
                 try have c70b2 : (9223372036854775807 < (((((⟨#[0, 0, 0, 2]⟩ : ByteArray) ++ t265) ++ t266) ++ t267) ++ t268).size + t269.size) = False := eq_false (Nat.not_lt.2 c70)
                 try (have c70b3 := c70b2; simp only [ByteArray.size_append, show ∀ a b : UInt8, (⟨#[a, b]⟩ : ByteArray).size = 2 from fun _ _ => rfl, show ∀ a b c d : UInt8, (⟨#[a, b, c, d]⟩ : ByteArray).size = 4 from fun _ _ _ _ => rfl, show ∀ a b c d e f g h : UInt8, (⟨#[a, b, c, d, e, f, g, h]⟩ : ByteArray).size = 8 from fun _ _ _ _ _ _ _ _ => rfl] at c70b3)
                 replace H := Option.bind_eq_some_iff.mp H
                 obtain ⟨t270, A710, H⟩ := H
                 try dsimp only at H
                 have A71 := Aside0.mk A710
                 clear A710
                 by_cases c72 : ((((((⟨#[0, 0, 0, 2]⟩ : ByteArray) ++ t265) ++ t266) ++ t267) ++ t268) ++ t269).size + t270.size ≤ 9223372036854775807
                 ·
                  rw [if_pos c72] at H
                  have c72b0 := eq_true c72
                  have c72b1 : decide (((((((⟨#[0, 0, 0, 2]⟩ : ByteArray) ++ t265) ++ t266) ++ t267) ++ t268) ++ t269).size + t270.size ≤ 9223372036854775807) = true := decide_eq_true c72
                  try have c72b2 : (9223372036854775807 < ((((((⟨#[0, 0, 0, 2]⟩ : ByteArray) ++ t265) ++ t266) ++ t267) ++ t268) ++ t269).size + t270.size) = False := eq_false (Nat.not_lt.2 c72)
                  try (have c72b3 := c72b2; simp only [ByteArray.size_append, show ∀ a b : UInt8, (⟨#[a, b]⟩ : ByteArray).size = 2 from fun _ _ => rfl, show ∀ a b c d : UInt8, (⟨#[a, b, c, d]⟩ : ByteArray).size = 4 from fun _ _ _ _ => rfl, show ∀ a b c d e f g h : UInt8, (⟨#[a, b, c, d, e, f, g, h]⟩ : ByteArray).size = 8 from fun _ _ _ _ _ _ _ _ => rfl] at c72b3)
                  by_cases c73 : (((((((⟨#[0, 0, 0, 2]⟩ : ByteArray) ++ t265) ++ t266) ++ t267) ++ t268) ++ t269) ++ t270).size + x21_57.size ≤ 9223372036854775807
                  ·
                   rw [if_pos c73] at H
                   have c73b0 := eq_true c73
                   have c73b1 : decide ((((((((⟨#[0, 0, 0, 2]⟩ : ByteArray) ++ t265) ++ t266) ++ t267) ++ t268) ++ t269) ++ t270).size + x21_57.size ≤ 9223372036854775807) = true := decide_eq_true c73
                   try have c73b2 : (9223372036854775807 < (((((((⟨#[0, 0, 0, 2]⟩ : ByteArray) ++ t265) ++ t266) ++ t267) ++ t268) ++ t269) ++ t270).size + x21_57.size) = False := eq_false (Nat.not_lt.2 c73)
                   try (have c73b3 := c73b2; simp only [ByteArray.size_append, show ∀ a b : UInt8, (⟨#[a, b]⟩ : ByteArray).size = 2 from fun _ _ => rfl, show ∀ a b c d : UInt8, (⟨#[a, b, c, d]⟩ : ByteArray).size = 4 from fun _ _ _ _ => rfl, show ∀ a b c d e f g h : UInt8, (⟨#[a, b, c, d, e, f, g, h]⟩ : ByteArray).size = 8 from fun _ _ _ _ _ _ _ _ => rfl] at c73b3)
                   replace H := Option.bind_eq_some_iff.mp H
                   obtain ⟨⟨t271, t272⟩, A740, H⟩ := H
                   try dsimp only at H
                   have A74 := Aside0.mk A740
                   clear A740
                   replace H := Option.bind_eq_some_iff.mp H
                   obtain ⟨t275, A750, H⟩ := H
                   try dsimp only at H
                   have A75 := Aside0.mk A750
                   clear A750
                   replace H := Option.bind_eq_some_iff.mp H
                   obtain ⟨t276, A760, H⟩ := H
                   try dsimp only at H
                   have A76 := Aside0.mk A760
                   clear A760
                   have HC77 := Aside0.mk H
                   clear H
                   go_upto_region 20 with (first | ((with_reducible refine gate_callee (f := 11) rfl ?_); refine gL_ 122 Try.func11 #[.int .i64 a2, .int .i64 2] ?_; (with_reducible refine (vinculumref03_Bytes.calls kj57 a2 2 t265 _ A61.out).mono ?_); rintro e w78 ⟨rfl, hb⟩; refine ⟨_, rfl, ?_⟩; have n0_ := Aside0.mk (below_step bA hb); clear HB; have HB := n0_; clear n0_; (try clear hb)) | ((with_reducible refine gate_callee (f := 11) rfl ?_); refine gL_ 125 Try.func11 #[.int .i64 a3, .int .i64 2] ?_; (with_reducible refine (vinculumref03_Bytes.calls kj57 a3 2 t266 _ A63.out).mono ?_); rintro e w79 ⟨rfl, hb⟩; refine ⟨_, rfl, ?_⟩; have n0_ := Aside0.mk (below_step bA hb); clear HB; have HB := n0_; clear n0_; (try clear hb)) | ((with_reducible refine gate_callee (f := 11) rfl ?_); refine gL_ 128 Try.func11 #[.int .i64 x19_57, .int .i64 4] ?_; (with_reducible refine (vinculumref03_Bytes.calls kj57 x19_57 4 t267 _ A65.out).mono ?_); rintro e w80 ⟨rfl, hb⟩; refine ⟨_, rfl, ?_⟩; have n0_ := Aside0.mk (below_step bA hb); clear HB; have HB := n0_; clear n0_; (try clear hb)) | ((with_reducible refine gate_callee (f := 11) rfl ?_); refine gL_ 131 Try.func11 #[.int .i64 a4, .int .i64 2] ?_; (with_reducible refine (vinculumref03_Bytes.calls kj57 a4 2 t268 _ A67.out).mono ?_); rintro e w81 ⟨rfl, hb⟩; refine ⟨_, rfl, ?_⟩; have n0_ := Aside0.mk (below_step bA hb); clear HB; have HB := n0_; clear n0_; (try clear hb)) | ((with_reducible refine gate_callee (f := 11) rfl ?_); refine gL_ 134 Try.func11 #[.int .i64 a5, .int .i64 2] ?_; (with_reducible refine (vinculumref03_Bytes.calls kj57 a5 2 t269 _ A69.out).mono ?_); rintro e w82 ⟨rfl, hb⟩; refine ⟨_, rfl, ?_⟩; have n0_ := Aside0.mk (below_step bA hb); clear HB; have HB := n0_; clear n0_; (try clear hb)) | ((with_reducible refine gate_callee (f := 11) rfl ?_); refine gL_ 137 Try.func11 #[.int .i64 x20_57, .int .i64 4] ?_; (with_reducible refine (vinculumref03_Bytes.calls kj57 x20_57 4 t270 _ A71.out).mono ?_); rintro e w83 ⟨rfl, hb⟩; refine ⟨_, rfl, ?_⟩; have n0_ := Aside0.mk (below_step bA hb); clear HB; have HB := n0_; clear n0_; (try clear hb)) | ((with_reducible refine gate_callee (f := 9) rfl ?_); refine gL_ 143 Try.func9 #[.string ((((((((⟨#[0, 0, 0, 2]⟩ : ByteArray) ++ t265) ++ t266) ++ t267) ++ t268) ++ t269) ++ t270) ++ x21_57)] ?_; (with_reducible refine (cmap_Get.calls ((((((((⟨#[0, 0, 0, 2]⟩ : ByteArray) ++ t265) ++ t266) ++ t267) ++ t268) ++ t269) ++ t270) ++ x21_57) t271 t272 _ A74.out).mono ?_); rintro e w84 ⟨v273, rfl, ho0, hb⟩; refine ⟨_, rfl, ?_⟩; have HO274 := Aside0.mk (Kd.R_lower ho0 (below_size bA)); replace HB := Aside0.mk (below_step bA hb); (try clear hb ho0)) | ((with_reducible refine gate_callee (f := 12) rfl ?_); refine gL_ 148 Try.func12 #[.int .i64 a2, .int .i64 a3] ?_; (with_reducible refine (cmap_Best.calls kj57 a2 a3 t275 _ A75.out).mono ?_); rintro e w85 ⟨rfl, hb⟩; refine ⟨_, rfl, ?_⟩; replace HO274 := Aside0.mk (Kd.R_below (rA HO274.out) hb); replace HB := Aside0.mk (below_step bA hb); (try clear hb)) | ((with_reducible refine gate_callee (f := 12) rfl ?_); refine gL_ 151 Try.func12 #[.int .i64 a4, .int .i64 a5] ?_; (with_reducible refine (cmap_Best.calls kj57 a4 a5 t276 _ A76.out).mono ?_); rintro e w86 ⟨rfl, hb⟩; refine ⟨_, rfl, ?_⟩; replace HO274 := Aside0.mk (Kd.R_below (rA HO274.out) hb); replace HB := Aside0.mk (below_step bA hb); (try clear hb)))
                   (try simp only [Act.put, List.setIfInBounds_toArray, List.set_cons_zero, List.set_cons_succ])
                   go_cut [157] (fun v157 wc => ∃ (kq : Nat) (x157_76 : Bool), v157 = .bool x157_76 ∧ Aside0 (vinculumlaw11_CmapRecords.j3 kq (t260.extract 12 t260.size) (t262.extract 12 t262.size) t271 t272 t275 t276 x157_76 = some r) ∧ Aside0 (kq ≤ kj57) ∧ Aside0 (Kd.R k50 50 wc w.heap.size (fun _ => True) v273 t271) ∧ Aside0 (Below w.heap.size w wc))
                   case first =>
                    have H := HC77.out
                    clear HC77
                    by_cases c87 : t275 = 0
                    ·
                     rw [if_pos c87] at H
                     have c87b0 : (t275 == 0) = true := beq_iff_eq.mpr c87
                     have c87b1 : (t275 != 0) = false := bne_eq_false_iff_eq.mpr c87
                     clear c87
                     (first | rw [c87b0] | (simp only [i64_w, i32_w]; rw [c87b0]) | skip)
                     as_aux_lemma =>
                      have H' := Aside0.mk H
                      clear H
                      go_wp2
                      go_meet
                      case rel => exact ⟨_, ((t276 == 0)), gA, H', ⟨by have := HJ7.out; have := HJ41.out; have := HJ57.out; first | omega | exact Nat.le_refl _⟩, ⟨by (with_reducible repeat (first | apply Kd.R_alloc | apply Kd.R_drewN | apply Kd.R_drew)); exact HO274.out⟩, ⟨bA⟩⟩
                    ·
                     rw [if_neg c87] at H
                     have c87b0 : (t275 == 0) = false := beq_eq_false_iff_ne.mpr c87
                     have c87b1 : (t275 != 0) = true := bne_iff_ne.mpr c87
                     (first | rw [c87b0] | (simp only [i64_w, i32_w]; rw [c87b0]) | skip)
                     as_aux_lemma =>
                      have H' := Aside0.mk H
                      clear H
                      go_wp2
                      go_meet
                      case rel => exact ⟨_, (false), gA, H', ⟨by have := HJ7.out; have := HJ41.out; have := HJ57.out; first | omega | exact Nat.le_refl _⟩, ⟨by (with_reducible repeat (first | apply Kd.R_alloc | apply Kd.R_drewN | apply Kd.R_drew)); exact HO274.out⟩, ⟨bA⟩⟩
                   case rest =>
                    clear HC77
                    try clear c1
                    try clear c2
                    try clear p2
                    try clear c3
                    try clear c4
                    try clear c5
                    try clear c6
                    try clear p6
                    try clear c7
                    try clear c8
                    try clear c9
                    try clear c10
                    try clear c11
                    try clear c12
                    try clear c13
                    try clear c13b0
                    try clear c16
                    try clear c16b0
                    try clear c19
                    try clear c19b0
                    try clear c22
                    try clear c22b0
                    try clear c25
                    try clear c25b0
                    try clear c28
                    try clear c28b0
                    try clear c31
                    try clear c31b0
                    try clear c39
                    try clear c45
                    try clear c45b0
                    try clear c45b1
                    try clear c46
                    try clear c46b0
                    try clear c46b1
                    try clear c47
                    try clear c47b0
                    try clear c47b1
                    try clear c48
                    try clear c50
                    try clear c51
                    try clear c51b0
                    try clear c51b1
                    try clear c55
                    try clear c55b0
                    try clear c55b1
                    try clear c56
                    try clear c56b0
                    try clear c56b1
                    try clear c57
                    try clear c57b0
                    try clear c57b1
                    try clear c57b2
                    try clear c59
                    try clear c60
                    try clear c60b0
                    try clear c60b1
                    try clear c60b2
                    try clear c62
                    try clear c62b0
                    try clear c62b1
                    try clear c62b2
                    try clear c64
                    try clear c64b0
                    try clear c64b1
                    try clear c64b2
                    try clear p64
                    try clear c66
                    try clear c66b0
                    try clear c66b1
                    try clear c66b2
                    try clear c68
                    try clear c68b0
                    try clear c68b1
                    try clear c68b2
                    try clear c70
                    try clear c70b0
                    try clear c70b1
                    try clear c70b2
                    try clear c72
                    try clear c72b0
                    try clear c72b1
                    try clear c72b2
                    try clear c73
                    try clear c73b0
                    try clear c73b1
                    try clear c73b2
                    try clear c87
                    try clear c87b0
                    try clear c87b1
                    try clear p2
                    try clear p6
                    obtain ⟨kq, x157_76, rfl, HA, HJ76, HO_23, HB⟩ := hcut
                    cases kq with
                    | zero => exact absurd HA.out (by simp [vinculumlaw11_CmapRecords.j3])
                    | succ kj76 =>
                     have H := HA.out
                     clear HA
                     simp only [vinculumlaw11_CmapRecords.j3] at H
                     by_cases c88 : x157_76 = true
                     ·
                      subst c88
                      rw [if_pos rfl] at H
                      replace H := Option.bind_eq_some_iff.mp H
                      obtain ⟨t277, A890, H⟩ := H
                      try dsimp only at H
                      have A89 := Aside0.mk A890
                      clear A890
                      by_cases c90 : t277 = true
                      ·
                       subst c90
                       rw [if_pos rfl] at H
                       by_cases c91 : t272 = 6
                       ·
                        rw [if_pos c91] at H
                        have c91b0 : (t272 == 6) = true := beq_iff_eq.mpr c91
                        have c91b1 : (t272 != 6) = false := bne_eq_false_iff_eq.mpr c91
                        clear c91
                        as_aux_lemma =>
                         obtain rfl := Option.some.inj H
                         go_wp2_with (first | ((with_reducible refine gate_callee (f := 8) rfl ?_); refine gL_ 158 Try.func8 #[] ?_; (with_reducible refine (vinculumlaw11_mapped.calls  true _ A89.out).mono ?_); rintro e w92 ⟨rfl, hb⟩; refine ⟨_, rfl, ?_⟩; replace HO_23 := Aside0.mk (Kd.R_below (rA HO_23.out) hb); replace HB := Aside0.mk (below_step bA hb); (try clear hb); obtain ⟨Ao93, co93, eo93⟩ := Kd.R_slice HO_23.out; subst eo93))
                         go_ret
                         exact ⟨eA, bA⟩
                       ·
                        rw [if_neg c91] at H
                        have c91b0 : (t272 == 6) = false := beq_eq_false_iff_ne.mpr c91
                        have c91b1 : (t272 != 6) = true := bne_iff_ne.mpr c91
                        as_aux_lemma =>
                         obtain rfl := Option.some.inj H
                         go_wp2_with (first | ((with_reducible refine gate_callee (f := 8) rfl ?_); refine gL_ 158 Try.func8 #[] ?_; (with_reducible refine (vinculumlaw11_mapped.calls  true _ A89.out).mono ?_); rintro e w94 ⟨rfl, hb⟩; refine ⟨_, rfl, ?_⟩; replace HO_23 := Aside0.mk (Kd.R_below (rA HO_23.out) hb); replace HB := Aside0.mk (below_step bA hb); (try clear hb)))
                         go_ret
                         exact ⟨eA, bA⟩
                      ·
                       replace c90 := Bool.eq_false_iff.mpr c90
                       subst c90
                       rw [if_neg Bool.false_ne_true] at H
                       as_aux_lemma =>
                        obtain rfl := Option.some.inj H
                        go_wp2_with (first | ((with_reducible refine gate_callee (f := 8) rfl ?_); refine gL_ 158 Try.func8 #[] ?_; (with_reducible refine (vinculumlaw11_mapped.calls  false _ A89.out).mono ?_); rintro e w95 ⟨rfl, hb⟩; refine ⟨_, rfl, ?_⟩; replace HO_23 := Aside0.mk (Kd.R_below (rA HO_23.out) hb); replace HB := Aside0.mk (below_step bA hb); (try clear hb)))
                        go_ret
                        exact ⟨eA, bA⟩
                     ·
                      replace c88 := Bool.eq_false_iff.mpr c88
                      subst c88
                      rw [if_neg Bool.false_ne_true] at H
                      replace H := Option.bind_eq_some_iff.mp H
                      obtain ⟨⟨t278, t279⟩, A960, H⟩ := H
                      try dsimp only at H
                      have A96 := Aside0.mk A960
                      clear A960
                      by_cases c97 : t276 > t275
                      ·
                       rw [if_pos c97] at H
                       have c97b0 : decide (t275 < t276) = true := decide_eq_true c97
                       clear c97
                       replace H := Option.bind_eq_some_iff.mp H
                       obtain ⟨⟨t282, t283⟩, A980, H⟩ := H
                       try dsimp only at H
                       have A98 := Aside0.mk A980
                       clear A980
                       replace H := Option.bind_eq_some_iff.mp H
                       obtain ⟨t286, A990, H⟩ := H
                       try dsimp only at H
                       have A99 := Aside0.mk A990
                       clear A990
                       by_cases c100 : t286 = true
                       ·
                        subst c100
                        rw [if_pos rfl] at H
                        by_cases c101 : t272 = 0
                        ·
                         rw [if_pos c101] at H
                         have c101b0 : (t272 == 0) = true := beq_iff_eq.mpr c101
                         have c101b1 : (t272 != 0) = false := bne_eq_false_iff_eq.mpr c101
                         clear c101
                         by_cases c102 : t283 = 0
                         ·
                          rw [if_pos c102] at H
                          have c102b0 : (t283 == 0) = true := beq_iff_eq.mpr c102
                          have c102b1 : (t283 != 0) = false := bne_eq_false_iff_eq.mpr c102
                          clear c102
                          replace H := Option.bind_eq_some_iff.mp H
                          obtain ⟨t287, A1030, H⟩ := H
                          try dsimp only at H
                          have A103 := Aside0.mk A1030
                          clear A1030
                          as_aux_lemma =>
                           obtain rfl := Option.some.inj H
                           go_wp2_with (first | ((with_reducible refine gate_callee (f := 13) rfl ?_); refine gL_ 170 Try.func13 #[.string (t260.extract 12 t260.size)] ?_; (with_reducible refine (cmap_Read.calls (t260.extract 12 t260.size) t278 t279 _ A96.out).mono ?_); rintro e w104 ⟨v280, rfl, ho0, hb⟩; refine ⟨_, rfl, ?_⟩; have HO281 := Aside0.mk (Kd.R_lower (Kd.R_new' ho0 (Kd.R_lt (rA HO_23.out))) (below_size bA)); replace HO_23 := eL HO_23 ho0 hb; replace HB := Aside0.mk (below_step bA hb); (try clear hb ho0)) | ((with_reducible refine gate_callee (f := 13) rfl ?_); refine gL_ 178 Try.func13 #[.string (t262.extract 12 t262.size)] ?_; (with_reducible refine (cmap_Read.calls (t262.extract 12 t262.size) t282 t283 _ A98.out).mono ?_); rintro e w105 ⟨v284, rfl, ho0, hb⟩; refine ⟨_, rfl, ?_⟩; have HO285 := Aside0.mk (Kd.R_lower (Kd.R_new' (Kd.R_new' ho0 (Kd.R_lt (rA HO_23.out))) (Kd.R_lt (rA HO281.out))) (below_size bA)); replace HO_23 := eL HO_23 ho0 hb; replace HO281 := eL HO281 ho0 hb; replace HB := Aside0.mk (below_step bA hb); (try clear hb ho0)) | ((with_reducible refine gate_callee (f := 8) rfl ?_); refine gL_ 181 Try.func8 #[] ?_; (with_reducible refine (vinculumlaw11_mapped.calls  true _ A99.out).mono ?_); rintro e w106 ⟨rfl, hb⟩; refine ⟨_, rfl, ?_⟩; replace HO_23 := Aside0.mk (Kd.R_below (rA HO_23.out) hb); replace HO281 := Aside0.mk (Kd.R_below (rA HO281.out) hb); replace HO285 := Aside0.mk (Kd.R_below (rA HO285.out) hb); replace HB := Aside0.mk (below_step bA hb); (try clear hb); obtain ⟨Ao107, co107, eo107⟩ := Kd.R_slice HO_23.out; subst eo107; obtain ⟨Ao108, co108, eo108⟩ := Kd.R_slice HO285.out; subst eo108) | (go_at_call 14; (with_reducible refine (vinculumref08_Same.calls kj76 _ _ t271 _ _ t282 t287 _ ?side1 ?side2 ?side3 ?side4 A103.out).mono ?_); (case side1 => exact cA (Kd.R_reads' HO_23.out).2.2); (case side2 => exact (Kd.R_reads' HO_23.out).2.1); (case side3 => exact cA (Kd.R_reads' HO285.out).2.2); (case side4 => exact (Kd.R_reads' HO285.out).2.1); rintro e w' ⟨rfl, ⟨nd, rfl⟩⟩))
                           go_ret
                           exact ⟨eA, bA⟩
                         ·
                          rw [if_neg c102] at H
                          have c102b0 : (t283 == 0) = false := beq_eq_false_iff_ne.mpr c102
                          have c102b1 : (t283 != 0) = true := bne_iff_ne.mpr c102
                          as_aux_lemma =>
                           obtain rfl := Option.some.inj H
                           go_wp2_with (first | ((with_reducible refine gate_callee (f := 13) rfl ?_); refine gL_ 170 Try.func13 #[.string (t260.extract 12 t260.size)] ?_; (with_reducible refine (cmap_Read.calls (t260.extract 12 t260.size) t278 t279 _ A96.out).mono ?_); rintro e w109 ⟨v280, rfl, ho0, hb⟩; refine ⟨_, rfl, ?_⟩; have HO281 := Aside0.mk (Kd.R_lower (Kd.R_new' ho0 (Kd.R_lt (rA HO_23.out))) (below_size bA)); replace HO_23 := eL HO_23 ho0 hb; replace HB := Aside0.mk (below_step bA hb); (try clear hb ho0)) | ((with_reducible refine gate_callee (f := 13) rfl ?_); refine gL_ 178 Try.func13 #[.string (t262.extract 12 t262.size)] ?_; (with_reducible refine (cmap_Read.calls (t262.extract 12 t262.size) t282 t283 _ A98.out).mono ?_); rintro e w110 ⟨v284, rfl, ho0, hb⟩; refine ⟨_, rfl, ?_⟩; have HO285 := Aside0.mk (Kd.R_lower (Kd.R_new' (Kd.R_new' ho0 (Kd.R_lt (rA HO_23.out))) (Kd.R_lt (rA HO281.out))) (below_size bA)); replace HO_23 := eL HO_23 ho0 hb; replace HO281 := eL HO281 ho0 hb; replace HB := Aside0.mk (below_step bA hb); (try clear hb ho0)) | ((with_reducible refine gate_callee (f := 8) rfl ?_); refine gL_ 181 Try.func8 #[] ?_; (with_reducible refine (vinculumlaw11_mapped.calls  true _ A99.out).mono ?_); rintro e w111 ⟨rfl, hb⟩; refine ⟨_, rfl, ?_⟩; replace HO_23 := Aside0.mk (Kd.R_below (rA HO_23.out) hb); replace HO281 := Aside0.mk (Kd.R_below (rA HO281.out) hb); replace HO285 := Aside0.mk (Kd.R_below (rA HO285.out) hb); replace HB := Aside0.mk (below_step bA hb); (try clear hb)))
                           go_ret
                           exact ⟨eA, bA⟩
                        ·
                         rw [if_neg c101] at H
                         have c101b0 : (t272 == 0) = false := beq_eq_false_iff_ne.mpr c101
                         have c101b1 : (t272 != 0) = true := bne_iff_ne.mpr c101
                         as_aux_lemma =>
                          obtain rfl := Option.some.inj H
                          go_wp2_with (first | ((with_reducible refine gate_callee (f := 13) rfl ?_); refine gL_ 170 Try.func13 #[.string (t260.extract 12 t260.size)] ?_; (with_reducible refine (cmap_Read.calls (t260.extract 12 t260.size) t278 t279 _ A96.out).mono ?_); rintro e w112 ⟨v280, rfl, ho0, hb⟩; refine ⟨_, rfl, ?_⟩; have HO281 := Aside0.mk (Kd.R_lower (Kd.R_new' ho0 (Kd.R_lt (rA HO_23.out))) (below_size bA)); replace HO_23 := eL HO_23 ho0 hb; replace HB := Aside0.mk (below_step bA hb); (try clear hb ho0)) | ((with_reducible refine gate_callee (f := 13) rfl ?_); refine gL_ 178 Try.func13 #[.string (t262.extract 12 t262.size)] ?_; (with_reducible refine (cmap_Read.calls (t262.extract 12 t262.size) t282 t283 _ A98.out).mono ?_); rintro e w113 ⟨v284, rfl, ho0, hb⟩; refine ⟨_, rfl, ?_⟩; have HO285 := Aside0.mk (Kd.R_lower (Kd.R_new' (Kd.R_new' ho0 (Kd.R_lt (rA HO_23.out))) (Kd.R_lt (rA HO281.out))) (below_size bA)); replace HO_23 := eL HO_23 ho0 hb; replace HO281 := eL HO281 ho0 hb; replace HB := Aside0.mk (below_step bA hb); (try clear hb ho0)) | ((with_reducible refine gate_callee (f := 8) rfl ?_); refine gL_ 181 Try.func8 #[] ?_; (with_reducible refine (vinculumlaw11_mapped.calls  true _ A99.out).mono ?_); rintro e w114 ⟨rfl, hb⟩; refine ⟨_, rfl, ?_⟩; replace HO_23 := Aside0.mk (Kd.R_below (rA HO_23.out) hb); replace HO281 := Aside0.mk (Kd.R_below (rA HO281.out) hb); replace HO285 := Aside0.mk (Kd.R_below (rA HO285.out) hb); replace HB := Aside0.mk (below_step bA hb); (try clear hb)))
                          go_ret
                          exact ⟨eA, bA⟩
                       ·
                        replace c100 := Bool.eq_false_iff.mpr c100
                        subst c100
                        rw [if_neg Bool.false_ne_true] at H
                        as_aux_lemma =>
                         obtain rfl := Option.some.inj H
                         go_wp2_with (first | ((with_reducible refine gate_callee (f := 13) rfl ?_); refine gL_ 170 Try.func13 #[.string (t260.extract 12 t260.size)] ?_; (with_reducible refine (cmap_Read.calls (t260.extract 12 t260.size) t278 t279 _ A96.out).mono ?_); rintro e w115 ⟨v280, rfl, ho0, hb⟩; refine ⟨_, rfl, ?_⟩; have HO281 := Aside0.mk (Kd.R_lower (Kd.R_new' ho0 (Kd.R_lt (rA HO_23.out))) (below_size bA)); replace HO_23 := eL HO_23 ho0 hb; replace HB := Aside0.mk (below_step bA hb); (try clear hb ho0)) | ((with_reducible refine gate_callee (f := 13) rfl ?_); refine gL_ 178 Try.func13 #[.string (t262.extract 12 t262.size)] ?_; (with_reducible refine (cmap_Read.calls (t262.extract 12 t262.size) t282 t283 _ A98.out).mono ?_); rintro e w116 ⟨v284, rfl, ho0, hb⟩; refine ⟨_, rfl, ?_⟩; have HO285 := Aside0.mk (Kd.R_lower (Kd.R_new' (Kd.R_new' ho0 (Kd.R_lt (rA HO_23.out))) (Kd.R_lt (rA HO281.out))) (below_size bA)); replace HO_23 := eL HO_23 ho0 hb; replace HO281 := eL HO281 ho0 hb; replace HB := Aside0.mk (below_step bA hb); (try clear hb ho0)) | ((with_reducible refine gate_callee (f := 8) rfl ?_); refine gL_ 181 Try.func8 #[] ?_; (with_reducible refine (vinculumlaw11_mapped.calls  false _ A99.out).mono ?_); rintro e w117 ⟨rfl, hb⟩; refine ⟨_, rfl, ?_⟩; replace HO_23 := Aside0.mk (Kd.R_below (rA HO_23.out) hb); replace HO281 := Aside0.mk (Kd.R_below (rA HO281.out) hb); replace HO285 := Aside0.mk (Kd.R_below (rA HO285.out) hb); replace HB := Aside0.mk (below_step bA hb); (try clear hb)))
                         go_ret
                         exact ⟨eA, bA⟩
                      ·
                       rw [if_neg c97] at H
                       have c97b0 : decide (t275 < t276) = false := decide_eq_false c97
                       clear c97
                       replace H := Option.bind_eq_some_iff.mp H
                       obtain ⟨t288, A1180, H⟩ := H
                       try dsimp only at H
                       have A118 := Aside0.mk A1180
                       clear A1180
                       by_cases c119 : t288 = true
                       ·
                        subst c119
                        rw [if_pos rfl] at H
                        by_cases c120 : t272 = 0
                        ·
                         rw [if_pos c120] at H
                         have c120b0 : (t272 == 0) = true := beq_iff_eq.mpr c120
                         have c120b1 : (t272 != 0) = false := bne_eq_false_iff_eq.mpr c120
                         clear c120
                         by_cases c121 : t279 = 0
                         ·
                          rw [if_pos c121] at H
                          have c121b0 : (t279 == 0) = true := beq_iff_eq.mpr c121
                          have c121b1 : (t279 != 0) = false := bne_eq_false_iff_eq.mpr c121
                          clear c121
                          replace H := Option.bind_eq_some_iff.mp H
                          obtain ⟨t289, A1220, H⟩ := H
                          try dsimp only at H
                          have A122 := Aside0.mk A1220
                          clear A1220
                          as_aux_lemma =>
                           obtain rfl := Option.some.inj H
                           go_wp2_with (first | ((with_reducible refine gate_callee (f := 13) rfl ?_); refine gL_ 170 Try.func13 #[.string (t260.extract 12 t260.size)] ?_; (with_reducible refine (cmap_Read.calls (t260.extract 12 t260.size) t278 t279 _ A96.out).mono ?_); rintro e w123 ⟨v280, rfl, ho0, hb⟩; refine ⟨_, rfl, ?_⟩; have HO281 := Aside0.mk (Kd.R_lower (Kd.R_new' ho0 (Kd.R_lt (rA HO_23.out))) (below_size bA)); replace HO_23 := eL HO_23 ho0 hb; replace HB := Aside0.mk (below_step bA hb); (try clear hb ho0)) | ((with_reducible refine gate_callee (f := 8) rfl ?_); refine gL_ 181 Try.func8 #[] ?_; (with_reducible refine (vinculumlaw11_mapped.calls  true _ A118.out).mono ?_); rintro e w124 ⟨rfl, hb⟩; refine ⟨_, rfl, ?_⟩; replace HO_23 := Aside0.mk (Kd.R_below (rA HO_23.out) hb); replace HO281 := Aside0.mk (Kd.R_below (rA HO281.out) hb); replace HB := Aside0.mk (below_step bA hb); (try clear hb); obtain ⟨Ao125, co125, eo125⟩ := Kd.R_slice HO_23.out; subst eo125; obtain ⟨Ao126, co126, eo126⟩ := Kd.R_slice HO281.out; subst eo126) | (go_at_call 14; (with_reducible refine (vinculumref08_Same.calls kj76 _ _ t271 _ _ t278 t289 _ ?side1 ?side2 ?side3 ?side4 A122.out).mono ?_); (case side1 => exact cA (Kd.R_reads' HO_23.out).2.2); (case side2 => exact (Kd.R_reads' HO_23.out).2.1); (case side3 => exact cA (Kd.R_reads' HO281.out).2.2); (case side4 => exact (Kd.R_reads' HO281.out).2.1); rintro e w' ⟨rfl, ⟨nd, rfl⟩⟩))
                           go_ret
                           exact ⟨eA, bA⟩
                         ·
                          rw [if_neg c121] at H
                          have c121b0 : (t279 == 0) = false := beq_eq_false_iff_ne.mpr c121
                          have c121b1 : (t279 != 0) = true := bne_iff_ne.mpr c121
                          as_aux_lemma =>
                           obtain rfl := Option.some.inj H
                           go_wp2_with (first | ((with_reducible refine gate_callee (f := 13) rfl ?_); refine gL_ 170 Try.func13 #[.string (t260.extract 12 t260.size)] ?_; (with_reducible refine (cmap_Read.calls (t260.extract 12 t260.size) t278 t279 _ A96.out).mono ?_); rintro e w127 ⟨v280, rfl, ho0, hb⟩; refine ⟨_, rfl, ?_⟩; have HO281 := Aside0.mk (Kd.R_lower (Kd.R_new' ho0 (Kd.R_lt (rA HO_23.out))) (below_size bA)); replace HO_23 := eL HO_23 ho0 hb; replace HB := Aside0.mk (below_step bA hb); (try clear hb ho0)) | ((with_reducible refine gate_callee (f := 8) rfl ?_); refine gL_ 181 Try.func8 #[] ?_; (with_reducible refine (vinculumlaw11_mapped.calls  true _ A118.out).mono ?_); rintro e w128 ⟨rfl, hb⟩; refine ⟨_, rfl, ?_⟩; replace HO_23 := Aside0.mk (Kd.R_below (rA HO_23.out) hb); replace HO281 := Aside0.mk (Kd.R_below (rA HO281.out) hb); replace HB := Aside0.mk (below_step bA hb); (try clear hb)))
                           go_ret
                           exact ⟨eA, bA⟩
                        ·
                         rw [if_neg c120] at H
                         have c120b0 : (t272 == 0) = false := beq_eq_false_iff_ne.mpr c120
                         have c120b1 : (t272 != 0) = true := bne_iff_ne.mpr c120
                         as_aux_lemma =>
                          obtain rfl := Option.some.inj H
                          go_wp2_with (first | ((with_reducible refine gate_callee (f := 13) rfl ?_); refine gL_ 170 Try.func13 #[.string (t260.extract 12 t260.size)] ?_; (with_reducible refine (cmap_Read.calls (t260.extract 12 t260.size) t278 t279 _ A96.out).mono ?_); rintro e w129 ⟨v280, rfl, ho0, hb⟩; refine ⟨_, rfl, ?_⟩; have HO281 := Aside0.mk (Kd.R_lower (Kd.R_new' ho0 (Kd.R_lt (rA HO_23.out))) (below_size bA)); replace HO_23 := eL HO_23 ho0 hb; replace HB := Aside0.mk (below_step bA hb); (try clear hb ho0)) | ((with_reducible refine gate_callee (f := 8) rfl ?_); refine gL_ 181 Try.func8 #[] ?_; (with_reducible refine (vinculumlaw11_mapped.calls  true _ A118.out).mono ?_); rintro e w130 ⟨rfl, hb⟩; refine ⟨_, rfl, ?_⟩; replace HO_23 := Aside0.mk (Kd.R_below (rA HO_23.out) hb); replace HO281 := Aside0.mk (Kd.R_below (rA HO281.out) hb); replace HB := Aside0.mk (below_step bA hb); (try clear hb)))
                          go_ret
                          exact ⟨eA, bA⟩
                       ·
                        replace c119 := Bool.eq_false_iff.mpr c119
                        subst c119
                        rw [if_neg Bool.false_ne_true] at H
                        as_aux_lemma =>
                         obtain rfl := Option.some.inj H
                         go_wp2_with (first | ((with_reducible refine gate_callee (f := 13) rfl ?_); refine gL_ 170 Try.func13 #[.string (t260.extract 12 t260.size)] ?_; (with_reducible refine (cmap_Read.calls (t260.extract 12 t260.size) t278 t279 _ A96.out).mono ?_); rintro e w131 ⟨v280, rfl, ho0, hb⟩; refine ⟨_, rfl, ?_⟩; have HO281 := Aside0.mk (Kd.R_lower (Kd.R_new' ho0 (Kd.R_lt (rA HO_23.out))) (below_size bA)); replace HO_23 := eL HO_23 ho0 hb; replace HB := Aside0.mk (below_step bA hb); (try clear hb ho0)) | ((with_reducible refine gate_callee (f := 8) rfl ?_); refine gL_ 181 Try.func8 #[] ?_; (with_reducible refine (vinculumlaw11_mapped.calls  false _ A118.out).mono ?_); rintro e w132 ⟨rfl, hb⟩; refine ⟨_, rfl, ?_⟩; replace HO_23 := Aside0.mk (Kd.R_below (rA HO_23.out) hb); replace HO281 := Aside0.mk (Kd.R_below (rA HO281.out) hb); replace HB := Aside0.mk (below_step bA hb); (try clear hb)))
                         go_ret
                         exact ⟨eA, bA⟩
                  ·
                   rw [if_neg c73] at H
                   exact absurd H (by simp)
                 ·
                  rw [if_neg c72] at H
                  exact absurd H (by simp)
                ·
                 rw [if_neg c70] at H
                 exact absurd H (by simp)
               ·
                rw [if_neg c68] at H
                exact absurd H (by simp)
              ·
               rw [if_neg c66] at H
               exact absurd H (by simp)
             ·
              rw [if_neg c64] at H
              exact absurd H (by simp)
            ·
             rw [if_neg c62] at H
             exact absurd H (by simp)
         ·
          rw [if_neg c57] at H
          exact absurd H (by simp)
        ·
         rw [if_neg c56] at H
         exact absurd H (by simp)
       ·
        rw [if_neg c55] at H
        exact absurd H (by simp)
end Go.Proofs.Ytejdflndgnpkcaa.P
end
section
namespace Go.Proofs.Ytejdflndgnpkcaa.Pure
open Go.RowKit Go.Proofs.Ytejdflndgnpkcaa.P Go.Proofs.YtejdflndgnpkcaaW.PrintWords Go.Proofs.YtejdflndgnpkcaaW.PrintLast
theorem le_max {n : Nat} (h : n ≤ 4000000) : n ≤ 9223372036854775807 := by omega
theorem j3_told (k : Nat) {p q x y : Int} {ta tb : ByteArray} {A B : List S50} (hk : 140000 ≤ k) (ha : Grp ta 12 A) (hb : Grp tb 13 B) (R : List S50 × Int)
  (hR : R = if bestP p q = 0 ∧ bestP x y = 0 then ([], 6) else if bestP p q < bestP x y then (B, 0) else (A, 0)) (z : Bool) (hz : z = true ↔ bestP p q = 0 ∧ bestP x y = 0) :
  vinculumlaw11_CmapRecords.j3 (k + 1) ta tb R.1 R.2 (bestP p q) (bestP x y) z = some true := by
 have hM : vinculumlaw11_mapped.f = some true := rfl
 have hra : cmap_Read.f ta = some (A, 0) := by show some (readM ta) = _; rw [ha.self]
 have hrb : cmap_Read.f tb = some (B, 0) := by show some (readM tb) = _; rw [hb.self]
 have la := (isL_all ha.j).1
 have lb := (isL_all hb.j).1
 simp only [vinculumlaw11_CmapRecords.j3]
 cases z with
 | true =>
  have hc := hz.1 rfl
  rw [if_pos hc] at hR
  rw [hR, if_pos rfl, hM, Option.bind_some, if_pos rfl]
  rfl
 | false =>
  have hc : ¬ (bestP p q = 0 ∧ bestP x y = 0) := fun h => Bool.noConfusion (hz.2 h)
  rw [if_neg hc] at hR
  rw [if_neg Bool.false_ne_true, hra, Option.bind_some]
  by_cases h1 : bestP p q < bestP x y
  ·
   rw [if_pos h1] at hR
   rw [hR, if_pos h1, hrb, Option.bind_some, hM, Option.bind_some, if_pos rfl, if_pos rfl, if_pos rfl, same_self8 B (by omega) k (by omega), Option.bind_some]
  ·
   rw [if_neg h1] at hR
   rw [hR, if_neg h1, hM, Option.bind_some, if_pos rfl, if_pos rfl, if_pos rfl, same_self8 A (by omega) k (by omega), Option.bind_some]
theorem j2_told (k : Nat) {p q x y f g : Int} {ta tb body : ByteArray} {A B : List S50} (hk : 150000 ≤ k) (hp : 0 ≤ p ∧ p ≤ 65535) (hq : 0 ≤ q ∧ q ≤ 65535) (hx : 0 ≤ x ∧ x ≤ 65535) (hy : 0 ≤ y ∧ y ≤ 65535) (hf : 0 ≤ f ∧ f ≤ 4294967295) (hg : 0 ≤ g ∧ g ≤ 4294967295)
  (ha : Grp ta 12 A) (hb : Grp tb 13 B) (hbody : body.size ≤ 2000000)
  (hget : getM ((⟨(headR p q f x y g).toArray⟩ : ByteArray) ++ body) = if bestP p q = 0 ∧ bestP x y = 0 then ([], 6) else if bestP p q < bestP x y then (B, 0) else (A, 0)) :
  vinculumlaw11_CmapRecords.j2 (k + 1) p q x y ta tb f g body = some true := by
 have bd : ∀ a b : ByteArray, (a ++ b).size = a.size + b.size := fun a b => ByteArray.size_append
 have z4 : (⟨#[0, 0, 0, 2]⟩ : ByteArray).size = 4 := rfl
 have s2 : ∀ v, (⟨(bytesN v 2).toArray⟩ : ByteArray).size = 2 := fun v => by rw [ba_size, bytesN_length]
 have s4 : ∀ v, (⟨(bytesN v 4).toArray⟩ : ByteArray).size = 4 := fun v => by rw [ba_size, bytesN_length]
 obtain ⟨k, rfl⟩ : ∃ m, k = m + 1 := ⟨k - 1, by omega⟩
 simp only [vinculumlaw11_CmapRecords.j2]
 rw [bytes_two hp.1 hp.2 (k + 1) (by omega), Option.bind_some, if_pos (by rw [s2]; decide), bytes_two hq.1 hq.2 (k + 1) (by omega), Option.bind_some, if_pos (by simp only [bd, s2, s4, z4]; decide),
  bytes_four hf.1 hf.2 (k + 1) (by omega), Option.bind_some, if_pos (by simp only [bd, s2, s4, z4]; decide), bytes_two hx.1 hx.2 (k + 1) (by omega), Option.bind_some, if_pos (by simp only [bd, s2, s4, z4]; decide),
  bytes_two hy.1 hy.2 (k + 1) (by omega), Option.bind_some, if_pos (by simp only [bd, s2, s4, z4]; decide), bytes_four hg.1 hg.2 (k + 1) (by omega), Option.bind_some, if_pos (by simp only [bd, s2, s4, z4]; decide),
  if_pos (by simp only [bd, s2, s4, z4]; exact le_max (by omega)), headR_bytes]
 have hG : cmap_Get.f ((⟨(headR p q f x y g).toArray⟩ : ByteArray) ++ body) = some (getM ((⟨(headR p q f x y g).toArray⟩ : ByteArray) ++ body)) := rfl
 rw [hG, Option.bind_some, best_told p q (k + 1) (by omega), Option.bind_some, best_told x y (k + 1) (by omega), Option.bind_some]
 by_cases h0 : bestP p q = 0
 ·
  rw [if_pos h0]
  have h := j3_told k (p := p) (q := q) (x := x) (y := y) (by omega) ha hb _ hget (bestP x y == 0) (by simp [h0])
  exact h
 ·
  rw [if_neg h0]
  exact j3_told k (p := p) (q := q) (x := x) (y := y) (by omega) ha hb _ hget false (by simp [h0])
theorem crecs_told (l m : List S50) (p q x y : Int) (turned : Bool) (K : Nat) (hK : 300000 ≤ K) : vinculumlaw11_CmapRecords.f (K + 4) l m p q x y turned = some true := by
 have hM : vinculumlaw11_mapped.f = some true := rfl
 have hP : ∀ l n, cmap_Put.f l n = some (putM l n) := fun l n => rfl
 have hj1 : ∀ (a b : ByteArray) (e f : Int), e ≠ 0 ∨ f ≠ 0 → vinculumlaw11_CmapRecords.j1 (K + 3) p q x y turned a e b f true = some true := fun a b e f h => by
  simp only [vinculumlaw11_CmapRecords.j1]
  rw [if_pos trivial, hM, Option.bind_some, if_pos rfl]
  by_cases h0 : e = 0
  ·
   have hf : f ≠ 0 := by rcases h with h | h; exact absurd h0 h; exact h
   rw [if_pos h0, bne_iff_ne.2 hf]
  · rw [if_neg h0]
 have hj : ∀ z, z = true ∨ (0 ≤ p ∧ 0 ≤ q ∧ 0 ≤ x ∧ 0 ≤ y ∧ p ≤ 65535 ∧ q ≤ 65535 ∧ x ≤ 65535 ∧ y ≤ 65535) → vinculumlaw11_CmapRecords.j0 (K + 4) l m p q x y turned z = some true := fun z hz => by
  simp only [vinculumlaw11_CmapRecords.j0]
  cases z with
  | true => rw [if_pos rfl]
  | false =>
   obtain ⟨p0, q0, x0, y0, p1, q1, x1, y1⟩ := (by rcases hz with h | h; exact Bool.noConfusion h; exact h : 0 ≤ p ∧ 0 ≤ q ∧ 0 ≤ x ∧ 0 ≤ y ∧ p ≤ 65535 ∧ q ≤ 65535 ∧ x ≤ 65535 ∧ y ≤ 65535)
   have GA : (putM l 12).2 = 0 → ∃ A ta, Grp ta 12 A ∧ (putM l 12).1.size = 12 + ta.size ∧ (putM l 12).1.extract 12 (putM l 12).1.size = ta := fun h => by
    obtain ⟨A, h1, h2, h3⟩ := grp_of (.inl rfl) h
    exact ⟨A, _, h1, h2, h3⟩
   have GB : (putM m 13).2 = 0 → ∃ A ta, Grp ta 13 A ∧ (putM m 13).1.size = 12 + ta.size ∧ (putM m 13).1.extract 12 (putM m 13).1.size = ta := fun h => by
    obtain ⟨A, h1, h2, h3⟩ := grp_of (.inr rfl) h
    exact ⟨A, _, h1, h2, h3⟩
   rw [if_neg Bool.false_ne_true, hP, Option.bind_some, hP, Option.bind_some]
   clear hP
   generalize putM l 12 = ra at GA ⊢
   generalize putM m 13 = rb at GB ⊢
   obtain ⟨a, ea⟩ := ra
   obtain ⟨b, eb⟩ := rb
   dsimp only at GA GB ⊢
   by_cases h0 : ea = 0
   case neg => rw [if_neg h0]; exact hj1 _ _ _ _ (.inl h0)
   rw [if_pos h0]
   by_cases h1 : eb = 0
   case neg => rw [if_neg h1]; exact hj1 _ _ _ _ (.inr h1)
   rw [if_pos h1]
   obtain ⟨A, ta, ha, za, xa⟩ := GA h0
   obtain ⟨B, tb, hb, zb, xb⟩ := GB h1
   have yya := ha.z
   have yyb := hb.z
   have yza := ha.y
   have yzb := hb.y
   clear GA GB hj1
   rw [if_neg (by omega), decide_eq_false (show ¬ (b.size : Int) < 28 by omega)]
   simp only [vinculumlaw11_CmapRecords.j1]
   have t1 : (12 : Int) ≤ (a.size : Int) := by omega
   have t2 : (12 : Int) ≤ (b.size : Int) := by omega
   have t3 : ta.size + tb.size ≤ 9223372036854775807 := le_max (n := ta.size + tb.size) (by omega)
   have t4 : tb.size + ta.size ≤ 9223372036854775807 := le_max (n := tb.size + ta.size) (by omega)
   rw [if_neg Bool.false_ne_true, if_pos t1, if_pos t2, xa, xb, if_pos t3]
   have bd : ∀ a b : ByteArray, (a ++ b).size = a.size + b.size := fun a b => ByteArray.size_append
   have w1 : wrap64 (20 + (tb.size : Int)) = 20 + (tb.size : Int) := by unfold wrap64; omega
   have w2 : wrap64 (20 + (ta.size : Int)) = 20 + (ta.size : Int) := by unfold wrap64; omega
   rw [w1, w2, if_pos t4]
   clear w1 w2
   have q1_ : (ta ++ tb).size ≤ 2000000 := by rw [bd]; omega
   have q2_ : (tb ++ ta).size ≤ 2000000 := by rw [bd]; omega
   have n1 : ¬ (20 + (tb.size : Int) = 20) := by omega
   have n2 : ¬ (20 + (ta.size : Int) = 20) := by omega
   cases turned with
   | true =>
    rw [if_pos rfl]
    refine j2_told (K + 1) (by omega) ⟨p0, p1⟩ ⟨q0, q1⟩ ⟨x0, x1⟩ ⟨y0, y1⟩ (by omega) (by omega) ha hb q2_ ?_
    rw [got_two ⟨p0, p1⟩ ⟨q0, q1⟩ ⟨x0, x1⟩ ⟨y0, y1⟩ hb ha (.inr ⟨rfl, rfl⟩), if_pos rfl, if_neg n1]
   | false =>
    rw [if_neg Bool.false_ne_true]
    refine j2_told (K + 1) (by omega) ⟨p0, p1⟩ ⟨q0, q1⟩ ⟨x0, x1⟩ ⟨y0, y1⟩ (by omega) (by omega) ha hb q1_ ?_
    rw [got_two ⟨p0, p1⟩ ⟨q0, q1⟩ ⟨x0, x1⟩ ⟨y0, y1⟩ ha hb (.inl ⟨rfl, rfl⟩), if_pos rfl, if_neg n2]
 obtain ⟨b1, h1, _⟩ := short11_told l (K + 4) (by omega)
 obtain ⟨b2, h2, _⟩ := short11_told m (K + 4) (by omega)
 unfold vinculumlaw11_CmapRecords.f
 rw [h1, Option.bind_some, h2, Option.bind_some]
 cases b1 with
 | false => rw [if_neg Bool.false_ne_true]; exact hj _ (.inl rfl)
 | true =>
  rw [if_pos rfl]
  cases b2 with
  | false => rw [if_neg Bool.false_ne_true]; exact hj _ (.inl rfl)
  | true =>
   rw [if_pos rfl]
   by_cases c1 : p < 0
   · rw [if_pos c1]; exact hj _ (.inl rfl)
   rw [if_neg c1]
   by_cases c2 : q < 0
   · rw [if_pos c2]; exact hj _ (.inl rfl)
   rw [if_neg c2]
   by_cases c3 : x < 0
   · rw [if_pos c3]; exact hj _ (.inl rfl)
   rw [if_neg c3]
   by_cases c4 : y < 0
   · rw [if_pos c4]; exact hj _ (.inl rfl)
   rw [if_neg c4]
   by_cases c5 : p > 65535
   · rw [if_pos c5]; exact hj _ (.inl rfl)
   rw [if_neg c5]
   by_cases c6 : q > 65535
   · rw [if_pos c6]; exact hj _ (.inl rfl)
   rw [if_neg c6]
   by_cases c7 : x > 65535
   · rw [if_pos c7]; exact hj _ (.inl rfl)
   rw [if_neg c7]
   by_cases c8 : y > 65535
   · rw [decide_eq_true c8]; exact hj _ (.inl rfl)
   · exact hj _ (.inr ⟨by omega, by omega, by omega, by omega, by omega, by omega, by omega, by omega⟩)
end Go.Proofs.Ytejdflndgnpkcaa.Pure
end
