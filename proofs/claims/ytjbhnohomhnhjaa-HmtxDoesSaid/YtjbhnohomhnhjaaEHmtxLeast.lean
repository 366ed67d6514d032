/- hmtx's least, told plainly: the row gone through from its end on, by slices.Backward. Condition: the row is not empty, and no longer than 65535. -/
import Derived.Test.YtjbhnohomhnhjaaEHmtxA
import Derived.Deep.WholeRow
namespace Go.Proofs.Ytjbhnohomhnhjaa.P
open Go.RowKit Go.Shelf Go.Proofs.YtjbhnohomhnhjaaW.PrintWords Go.Proofs.YtjbhnohomhnhjaaW.PrintLast Go.Proofs.YtjbhnohomhnhjaaW.PrintMore
set_option linter.unusedSimpArgs false
set_option linter.unusedVariables false
attribute [local go_sem] Oper.semAt_some
/-! ### The plain side -/
/-- The element that comes up in round j. -/
def backAt (l : List S34) (j : Nat) : S34 := rd_T34 l ((l.length - 1 - j : Nat) : Int)
def leastN (l : List S34) : Nat :=
  match (List.finRange l.length).find? (fun x => decide ((backAt l x.1).f0 ≠ (backAt l 0).f0)) with
  | some x => l.length - 1 - x.1 + 2
  | none => 1
theorem leastN_some {l : List S34} {k : Nat} {pre : List (Fin l.length)} {x : Fin l.length} (hk : (List.finRange l.length).take k = pre ++ [x]) (hp : ∀ y ∈ pre, (backAt l y.1).f0 = (backAt l 0).f0) (hx : (backAt l x.1).f0 ≠ (backAt l 0).f0) : leastN l = l.length - 1 - x.1 + 2 := by
  have e : List.finRange l.length = pre ++ [x] ++ (List.finRange l.length).drop k := by rw [← hk, List.take_append_drop]
  unfold leastN
  have : (List.finRange l.length).find? (fun x => decide ((backAt l x.1).f0 ≠ (backAt l 0).f0)) = some x := by
    rw [e, List.find?_append, List.find?_append]
    have : pre.find? (fun x => decide ((backAt l x.1).f0 ≠ (backAt l 0).f0)) = none := List.find?_eq_none.2 (fun y hy => by simp [hp y hy])
    rw [this]
    simp [hx]
  rw [this]
theorem leastN_none {l : List S34} (hp : ∀ y ∈ List.finRange l.length, (backAt l y.1).f0 = (backAt l 0).f0) : leastN l = 1 := by
  unfold leastN
  have : (List.finRange l.length).find? (fun x => decide ((backAt l x.1).f0 ≠ (backAt l 0).f0)) = none := List.find?_eq_none.2 (fun y hy => by simp [hp y hy])
  rw [this]
def backV : Nat → Value
  | 0 => .int .i64 (-1)
  | q + 1 => .int .i64 (q : Int)
theorem backV_less (q : Nat) : (intOf (backV q) + 1).toNat < (intOf (Value.int .i64 (q : Int)) + 1).toNat := by
  cases q with
  | zero => decide
  | succ q =>
    have e1 : (intOf (backV (q + 1)) + 1).toNat = q + 1 := by show ((q : Int) + 1).toNat = q + 1; omega
    have e2 : (intOf (Value.int .i64 ((q + 1 : Nat) : Int)) + 1).toNat = q + 2 := by show (((q + 1 : Nat) : Int) + 1).toNat = q + 2; omega
    rw [e1, e2]; omega
theorem backV_pred (q : Nat) : Value.int .i64 ((q : Int) - 1) = backV q := by
  cases q with
  | zero => rfl
  | succ q =>
    have : (((q + 1 : Nat) : Int) - 1) = (q : Int) := by omega
    rw [this]; rfl
def backEnc (l : List S34) (x : Fin l.length) : Array Value := #[.int .i64 ((l.length - 1 - x.1 : Nat) : Int), .agg #[.int .i64 (backAt l x.1).f0, .int .i64 (backAt l x.1).f1]]
set_option maxRecDepth 100000 in
set_option maxHeartbeats 2000000 in
theorem back1_in (l n Bs n₀ c0 : Nat) (A : Option Addr) (r : List S34) (hreach : r.length ≤ 65535) (kBs : Bs < n₀) (J Jx : List (Fin r.length) → World → Prop)
    (hY : ∀ pre x W, J pre W → pre.length < r.length → YieldAt Fence.wide (n - 1) Try.prog l (backEnc r x) W fun e W' =>
      (e = .returned (.bool true) ∧ J (pre ++ [x]) W' ∧ Below n₀ W W') ∨ (e = .returned (.bool false) ∧ Jx (pre ++ [x]) W'))
    (W : World) (hBs : W.cell? ⟨Bs, 0, none⟩ = some (.slice A r.length c0)) (hC : Kd.C k34 W A r.length r) (hn₀ : n₀ ≤ W.heap.size) (hlow : ∀ W', Below n₀ W W' → Kd.C k34 W' A r.length r) (h0 : J [] W) :
    CallsIn Fence.wide n Try.prog 37 #[.func (.yield l) #[] #[], .pointer (some ⟨Bs, 0, none⟩)] W fun e W' => (∃ v, e = .returned v) ∧
      ((∃ ys, ys = List.finRange r.length ∧ J ys W') ∨ (∃ pre, (∃ k, pre = (List.finRange r.length).take k) ∧ Jx pre W')) := by
  have hz := (zero_of_info (P := Try.prog) (t := 34) (v := .agg #[.int .i64 0, .int .i64 0]) (n := 2) (by kernel_rfl)).1
  refine callsIn_of_wp Try.func37 rfl trivial ?_ rfl
  simp only [Try.ntmps37, List.size_toArray, List.length_cons, List.length_nil, Nat.reduceAdd, Nat.reduceSub, Array.replicate_succ, Array.replicate_zero, List.push_toArray, List.append_toArray, List.nil_append, List.cons_append]
  gi_wp2
  gi_loopw [3] (fun i wr => ∃ q : Nat, q ≤ r.length ∧ i = backV q ∧ J ((List.finRange r.length).take (r.length - q)) wr ∧ Below n₀ W wr)
    (fun i _ => (intOf i + 1).toNat)
  case atStart => exact ⟨r.length, Nat.le_refl _, backV_pred _, by simpa using h0, Below.refl _ _⟩
  case round =>
    obtain ⟨q, hq, rfl, hJs, hnx⟩ := hrel
    have c1 := (hnx.cell (p := ⟨Bs, 0, none⟩) kBs).trans hBs
    cases q with
    | zero =>
      have hJe : J (List.finRange r.length) wr := by rwa [List.take_of_length_le (by simp)] at hJs
      rw [show backV 0 = Value.int .i64 (-1) from rfl]
      gi_wp2
      go_end0
      exact ⟨⟨_, rfl⟩, .inl ⟨_, rfl, hJe⟩⟩
    | succ q =>
      have hj : r.length - (q + 1) < r.length := by omega
      have hqj : r.length - 1 - (r.length - (q + 1)) = q := by omega
      have q0 : (0 : Int) ≤ (q : Int) := by omega
      have q1 : (q : Int) < (r.length : Int) := by omega
      obtain ⟨ad, e, hx0, hx1⟩ := at_T34 (hlow wr hnx) (q : Int) q0 q1
      cases e
      simp only [Int.toNat_natCast] at hx0 hx1
      obtain ⟨fn, tmps, assign, body, hy, hR⟩ := hY _ ⟨r.length - (q + 1), hj⟩ wr hJs (by simp; omega)
      unfold backEnc backAt at hy
      dsimp only at hy
      rw [hqj] at hy
      rw [← take_finRange hj] at hR
      have ek : r.length - (q + 1) + 1 = r.length - q := by omega
      rw [ek] at hR
      rw [show backV (q + 1) = Value.int .i64 (q : Int) from rfl]
      gi_wp2_with fail
      refine ⟨fun e => by simp [Fence.wide] at e, hR.mono ?_⟩
      rintro e W3 (⟨rfl, hJ3, hk3⟩ | ⟨rfl, hJx3⟩)
      · gi_wp2
        go_roundw
        case rel => exact ⟨q, by omega, backV_pred q, hJ3, hnx.trans hk3⟩
        case measure => rw [backV_pred]; exact backV_less q
      · gi_wp2
        refine bodyPost_ret (results_none rfl _ _ _) rfl ?_
        exact ⟨⟨_, rfl⟩, .inr ⟨_, ⟨_, rfl⟩, hJx3⟩⟩
theorem back_stops (n Bs n₀ c0 : Nat) (A : Option Addr) (r : List S34) (hreach : r.length ≤ 65535) (kBs : Bs < n₀) (w : World) (hn₀ : n₀ ≤ w.heap.size)
    (hBs : w.cell? ⟨Bs, 0, none⟩ = some (.slice A r.length c0)) (hlow : ∀ W', Below n₀ w W' → Kd.C k34 W' A r.length r) :
    SeqStopsK Fence.wide n Try.prog 37 #[.pointer (some ⟨Bs, 0, none⟩)] (backEnc r) (Below n₀) (fun ys => ys = List.finRange r.length) (fun pre => ∃ k, pre = (List.finRange r.length).take k) r.length w := fun l J Jx W hW _ _ hY h0 =>
  back1_in l n Bs n₀ c0 A r hreach kBs J Jx hY W ((hW.cell (p := ⟨Bs, 0, none⟩) (by show Bs < _; omega)).trans hBs) (hlow W (hW.mono hn₀)) (Nat.le_trans hn₀ hW.size) (fun W' h => hlow W' ((hW.mono hn₀).trans h)) h0
theorem back_calls (A : Option Addr) (len cap : Nat) (w : World) :
    Calls Try.prog 30 #[.slice A len cap] w fun e w' => e = .returned (.func (.func 37) #[] #[.pointer (some ⟨w.heap.size, 0, none⟩)]) ∧ w' = w.alloc (.cells #[.slice A len cap] 22) := by
  go_enter Try.func30, Try.ntmps30
  go_wp2
  go_ret
  exact ⟨rfl, rfl⟩
/-- What a round is told of its element's box. -/
def LeastA (r : List S34) (A : Option Addr) (c0 B N3 : Nat) (x : Fin r.length) (a' : Act) (W : World) : Prop :=
  ∃ L, N3 ≤ L ∧ W.cell? ⟨L, 0, none⟩ = some (.int .i64 (backAt r x.1).f0) ∧ a' = { tmps := #[.slice A r.length c0, .pointer (some ⟨B, 0, none⟩), .pointer (some ⟨B + 1, 0, none⟩), .int .i64 ((r.length - 1 - x.1 : Nat) : Int), .pointer (some ⟨L, 0, none⟩), .slice A r.length c0, .func (.func 37) #[] #[.pointer (some ⟨B + 1 + 1, 0, none⟩)], .int .i64 ((r.length - 1 - x.1 : Nat) : Int), .agg #[.int .i64 (backAt r x.1).f0, .int .i64 (backAt r x.1).f1], undef, undef, undef, undef, undef, undef, undef, undef, undef, undef, undef, undef], defers := [] }
/-- A round has said 'no more'. -/
def LeastX (r : List S34) (w : World) (B : Nat) (c : Code) (s : List (Fin r.length)) (W : World) : Prop :=
  c = .ret ∧ (∃ pre x, s = pre ++ [x] ∧ (∀ y ∈ pre, (backAt r y.1).f0 = (backAt r 0).f0) ∧ (backAt r x.1).f0 ≠ (backAt r 0).f0 ∧ W.cell? ⟨B + 1, 0, none⟩ = some (.int .i64 ((r.length - 1 - x.1 + 2 : Nat) : Int))) ∧ Below w.heap.size w W
theorem least_end {tmps : Array Value} {w W : World} {D B : Nat} {v k : Int} (h2 : tmps[2]?.getD undef = .pointer (some ⟨B, 0, none⟩)) (hd : W.heap[D]? = some (.deferred (some []))) (hc : W.cell? ⟨B, 0, none⟩ = some (.int .i64 v)) (hb : Below w.heap.size w W) (hwD : w.heap.size ≤ D) (hv : v = k) :
    LeavesInM Fence.wide 9 Try.prog Try.f18 tmps (fun e w' => e = .returned (.int .i64 k) ∧ Below w.heap.size w w') [] .returning (W.putObj D (.deferred none)) := by
  have hg := grownBy_putObj' W D (.deferred none)
  have hc2 : (W.putObj D (.deferred none)).cell? ⟨B, 0, none⟩ = some (.int .i64 v) := cell_kept hc hg (fun k e => by cases e; exact ⟨_, hd, rfl⟩)
  refine ⟨.int .i64 v, by simp [results, Try.results18, go_sem, h2, hc2], by rw [hv], hb.grown hg hb.size (fun k e => by cases e; exact hwD)⟩
theorem ne_last {a b : Int} (h : a = b) : (a != b) = false := by simp [h]
set_option maxRecDepth 100000 in
set_option maxHeartbeats 4000000 in
theorem least_walk (A : Option Addr) (c0 : Nat) (r : List S34) (w : World) (hr0 : Kd.C k34 w A r.length r) (hc0 : r.length ≤ c0) (hr1 : 0 < r.length) (hreach : r.length ≤ 65535) :
    Calls Try.prog 18 #[.slice A r.length c0] w fun e w' => e = .returned (.int .i64 (leastN r : Int)) ∧ Below w.heap.size w w' := by
  have HR0 := Lib.hid hr0
  have HR1 := Lib.hid hr1
  have HRE := Lib.hid hreach
  have hz := (zero_of_info (P := Try.prog) (t := 34) (v := .agg #[.int .i64 0, .int .i64 0]) (n := 2) (by kernel_rfl)).1
  clear hr0 hr1 hreach hc0
  refine (callsIn_wide (n := 9)).1 (callsIn_of_wp_marks Try.func18 rfl trivial (wpIn_wide.2 ?_) rfl)
  simp only [Try.ntmps18, List.size_toArray, List.length_cons, List.length_nil, Nat.reduceAdd, Nat.reduceSub, Array.replicate_succ, Array.replicate_zero, List.push_toArray, List.append_toArray, List.nil_append, List.cons_append]
  go_wp2_with fail
  refine (back_calls A r.length c0 _).mono ?_
  rintro e w3 ⟨rfl, hw3⟩
  have hs2 : ((w.alloc (.cells #[.slice A r.length c0] 22)).alloc (.cells #[.int .i64 0] 3)).heap.size = w.heap.size + 1 + 1 := by simp
  obtain ⟨b3, b1, b2, f2, n3⟩ : Below w.heap.size w w3 ∧ w3.cell? ⟨w.heap.size, 0, none⟩ = some (.slice A r.length c0) ∧ w3.cell? ⟨w.heap.size + 1, 0, none⟩ = some (.int .i64 0) ∧ w3.frozen? ⟨w.heap.size + 1, 0, none⟩ = false ∧ w3.heap.size = w.heap.size + 3 := by
    rw [hw3]
    exact ⟨(((Below.refl _ w).alloc (Nat.le_refl _) _).alloc (by simp) _).alloc (by simp; omega) _, by simp [go_sem], by simp [go_sem], by simp [go_sem], by simp⟩
  have b4 : w3.cell? ⟨w.heap.size + 1 + 1, 0, none⟩ = some (.slice A r.length c0) := by rw [hw3]; simp [go_sem]
  have HB3 := Lib.hid b3
  have H1 := Lib.hid b1
  have H2 := Lib.hid b2
  have HF2 := Lib.hid f2
  have H4 := Lib.hid b4
  have HN3 := Lib.hid n3
  have HLA := Lib.hid (show w.heap.size < w3.heap.size by rw [n3]; omega)
  have HLB := Lib.hid (show w.heap.size + 1 < w3.heap.size by rw [n3]; omega)
  simp only [hs2]
  clear b3 b1 b2 f2 b4 n3 hw3 hs2
  go_wp2_with fail
  refine (wpIn_wide (n := 9)).1 ?_
  refine wpIn_rangeFunc_ownH (F := Fence.wide) (n := 9) rfl (by decide) (gf := 37) (lb := #[.pointer (some ⟨w.heap.size + 1 + 1, 0, none⟩)]) rfl trivial (enters_of Try.func37 (by kernel_rfl) rfl)
    (back_stops 8 (w.heap.size + 1 + 1) w3.heap.size c0 A r HRE.out (by rw [HN3.out]; omega) w3 (Nat.le_refl _) H4.out (fun W' h => Kd.C_below HR0.out (HB3.out.trans (h.mono HB3.out.size)))) belowK_t (belowK_b (Nat.le_refl _)) (Below.refl _ _) (fun _ => rfl)
    (fun pre W => (∀ y ∈ pre, (backAt r y.1).f0 = (backAt r 0).f0) ∧ Below w3.heap.size w3 W) (LeastX r w w.heap.size) ?hI ?hIx ⟨fun y hy => by simp at hy, Below.refl _ _⟩ (LeastA r A c0 w.heap.size w3.heap.size) ?hAx ?assign ?body ?done ?stop
  case hI => exact fun s X Y row ⟨h1, h2⟩ hg hr => ⟨h1, h2.grown hg h2.size (fun k e => (hr k e).1)⟩
  case hIx =>
    rintro c s X Y row ⟨h1, ⟨pre, x, h2, h3, h4, h5⟩, h6⟩ hg hr
    exact ⟨h1, ⟨pre, x, h2, h3, h4, cell_kept h5 hg (fun k e => (hr k e).2)⟩, h6.grown hg h6.size (fun k e => Nat.le_trans HB3.out.size (hr k e).1)⟩
  case hAx =>
    rintro x a' s X Y row ⟨L, h1, h2, h3⟩ hg hr
    exact ⟨L, h1, cell_kept h2 hg (fun k e => (hr k e).2), h3⟩
  case assign =>
    rintro l pre x W K ⟨h1, h2⟩ hK
    unfold backEnc
    gi_wp2
    refine hK _ _ ((KeepsOthers.alloc _ _).from _) ((Below.refl _ W).alloc h2.size _) ⟨h1, h2.alloc h2.size _⟩ ⟨W.heap.size, h2.size, ?_, ?_⟩
    · simp [go_sem]
    · rfl
  case done =>
    rintro D ys W hD rfl ⟨h1, h2⟩ hdef
    have hl : leastN r = 1 := leastN_none h1
    have c2 := (h2.cell (p := ⟨w.heap.size + 1, 0, none⟩) HLB.out).trans H2.out
    have z2 := (h2.frozen (p := ⟨w.heap.size + 1, 0, none⟩) HLB.out).trans HF2.out
    have HBW := Lib.hid (HB3.out.trans (h2.mono HB3.out.size))
    have HD2 := Lib.hid (show (W.setCell ⟨w.heap.size + 1, 0, none⟩ (.int .i64 1)).heap[D]? = some (.deferred (some [])) from (Below.heap_setCell W _ _ D (by have := HN3.out; show D ≠ w.heap.size + 1; omega)).trans hdef)
    have HL := Lib.hid hl
    have HDD := Lib.hid (show w.heap.size ≤ D by have := HN3.out; omega)
    clear h1 h2 hdef hl hD
    go_wp2
    refine ⟨by simp, .inl ⟨_, _, rfl, run_takeDeferred HD2.out, ?_⟩⟩
    have hb := HBW.out.setCell (p := ⟨w.heap.size + 1, 0, none⟩) (Nat.le_succ _) (.int .i64 1)
    exact least_end (by rfl) HD2.out (World.cell?_setCell_same _ _ _ c2) hb HDD.out (by rw [HL.out]; rfl)
  case stop =>
    rintro D c pre W hD ⟨k, hk⟩ ⟨rfl, ⟨pr, x, hs, h1, h2, h3⟩, h4⟩ hdef
    have hl : leastN r = r.length - 1 - x.1 + 2 := leastN_some (by rw [← hk, hs]) h1 h2
    have HL := Lib.hid hl
    have H3 := Lib.hid h3
    have H4 := Lib.hid h4
    have HDD := Lib.hid (show w.heap.size ≤ D by have := HN3.out; omega)
    have HDF := Lib.hid hdef
    clear hl h3 h4 hdef h1 h2 hs hk
    gi_wp2
    refine ⟨by simp, .inl ⟨_, _, rfl, run_takeDeferred HDF.out, ?_⟩⟩
    exact least_end (by rfl) HDF.out H3.out H4.out HDD.out (by rw [HL.out])
  case body =>
    rintro l pre x a' W _ ⟨rec, hrec⟩ ⟨h1, h2⟩ ⟨L, hL, hc, rfl⟩ hlt
    have c1 := (h2.cell (p := ⟨w.heap.size, 0, none⟩) HLA.out).trans H1.out
    have c2 := (h2.cell (p := ⟨w.heap.size + 1, 0, none⟩) HLB.out).trans H2.out
    have z2 := (h2.frozen (p := ⟨w.heap.size + 1, 0, none⟩) HLB.out).trans HF2.out
    have hr1 := HR1.out
    have hre := HRE.out
    obtain ⟨ad, e, hx0, _⟩ := at_T34 (Kd.C_below HR0.out (HB3.out.trans (h2.mono HB3.out.size))) ((r.length - 1 : Nat) : Int) (by omega) (by omega)
    cases e
    have hx0 : W.cell? (ad.add ((r.length - 1) * 2)) = some (.int .i64 (backAt r 0).f0) := by simpa [backAt] using hx0
    have wm : wrap64 ((r.length : Int) - 1) = ((r.length - 1 : Nat) : Int) := by unfold wrap64; omega
    have wi : wrap64 (((r.length - 1 - x.1 : Nat) : Int) + 2) = ((r.length - 1 - x.1 + 2 : Nat) : Int) := by unfold wrap64; omega
    obtain ⟨fx, hfx⟩ : ∃ fx, fx = (backAt r x.1).f0 := ⟨_, rfl⟩
    obtain ⟨fl, hfl⟩ : ∃ fl, fl = (backAt r 0).f0 := ⟨_, rfl⟩
    obtain ⟨gx, hgx⟩ : ∃ gx, gx = (backAt r x.1).f1 := ⟨_, rfl⟩
    obtain ⟨ix, hix⟩ : ∃ ix, ix = r.length - 1 - x.1 := ⟨_, rfl⟩
    obtain ⟨mp, hmp⟩ : ∃ mp, mp = r.length - 1 := ⟨_, rfl⟩
    rw [← hfx] at hc ⊢
    rw [← hgx]
    rw [← hix] at wi ⊢
    rw [← hfl] at hx0
    rw [← hmp] at hx0 wm
    have q0 : (0 : Int) ≤ (mp : Int) := by omega
    have q1 : (mp : Int) < (r.length : Int) := by omega
    have HI := Lib.hid h1
    have HBW := Lib.hid h2
    have HFX := Lib.hid hfx
    have HFL := Lib.hid hfl
    have HIX := Lib.hid hix
    have HC2 := Lib.hid c2
    have HZ2 := Lib.hid z2
    have HLT := Lib.hid hlt
    clear h1 h2 hfx hfl hgx hix hmp hr1 hre c2 z2 hlt hrec
    gi_wp2_with fail
    refine start_in (m := 10) (S := fun u => u.cell? ⟨w.heap.size, 0, none⟩ = some (.slice (some ad) r.length c0) ∧ u.cell? ⟨L, 0, none⟩ = some (.int .i64 fx) ∧ u.cell? (ad.add (mp * 2)) = some (.int .i64 fl)) (ds := []) #[false, false, false, false, false, false, false, false, false, false] (by kernel_rfl) rfl rfl (by kernel_rfl) (by rintro ⟨_, _, h⟩; exact h) ⟨c1, hc, hx0⟩ (fun hHeld => ?_)
    clear c1 hc hx0
    have HBD := Lib.hid (show Below w3.heap.size w3 W.drew from below_drew1 HBW.out)
    have HWD := Lib.hid (show KeepsOthers W W.drew from KeepsOthers.drew W)
    have HWB := Lib.hid (show Below w3.heap.size W W.drew from below_drew1 (Below.refl _ _))
    obtain ⟨u0, hu0⟩ : ∃ u0, u0 = W.drew := ⟨_, rfl⟩
    have c2 : u0.cell? ⟨w.heap.size + 1, 0, none⟩ = some (.int .i64 0) := by rw [hu0]; exact HC2.out
    have z2 : u0.frozen? ⟨w.heap.size + 1, 0, none⟩ = false := by rw [hu0]; exact HZ2.out
    rw [← hu0] at HBD HWD HWB hHeld ⊢
    clear hu0
    replace q0 := eq_true q0
    replace q1 := eq_true q1
    refine pure_ (i := 0) (N := some 9) (v := ?_) (a' := ?_) #[true, false, false, false, false, false, false, false, false, false] rfl rfl (by kernel_rfl) (fun _ _ _ h => h) (Or.inl ⟨by rfl, ?_⟩) ?_ ?_
    rotate_left
    · intro w'
      go_simp
      with_reducible rfl
    rotate_left
    · simp only [Act.put, List.setIfInBounds_toArray, List.set_cons_zero, List.set_cons_succ, i64_w, i32_w]
      rfl
    refine take_ (i := 1) (N := some 10) (v := ?_) (a' := ?_) #[true, true, false, false, false, false, false, false, false, false] rfl rfl (by kernel_rfl) (fun _ _ _ h => h) (Or.inl ⟨by rfl, ?_⟩) hHeld ?_ ?_
    rotate_left
    · rintro w' s0
      obtain ⟨s1, s2, s3⟩ := s0
      go_simp
      with_reducible rfl
    rotate_left
    · simp only [Act.put, List.setIfInBounds_toArray, List.set_cons_zero, List.set_cons_succ, i64_w, i32_w]
      rfl
    refine take_ (i := 2) (N := some 11) (v := ?_) (a' := ?_) #[true, true, true, false, false, false, false, false, false, false] rfl rfl (by kernel_rfl) (fun _ _ _ h => h) (Or.inl ⟨by rfl, ?_⟩) hHeld ?_ ?_
    rotate_left
    · rintro w' s0
      obtain ⟨s1, s2, s3⟩ := s0
      go_simp
      with_reducible rfl
    rotate_left
    · simp only [Act.put, List.setIfInBounds_toArray, List.set_cons_zero, List.set_cons_succ, i64_w, i32_w]
      rfl
    refine take_ (i := 3) (N := some 12) (v := ?_) (a' := ?_) #[true, true, true, true, false, false, false, false, false, false] rfl rfl (by kernel_rfl) (fun _ _ _ h => h) (Or.inl ⟨by rfl, ?_⟩) hHeld ?_ ?_
    rotate_left
    · rintro w' s0
      obtain ⟨s1, s2, s3⟩ := s0
      go_simp
      with_reducible rfl
    rotate_left
    · simp only [Act.put, List.setIfInBounds_toArray, List.set_cons_zero, List.set_cons_succ, i64_w, i32_w]
      rfl
    refine pure_ (i := 4) (N := some 13) (v := ?_) (a' := ?_) #[true, true, true, true, true, false, false, false, false, false] rfl rfl (by kernel_rfl) (fun _ _ _ h => h) (Or.inl ⟨by rfl, ?_⟩) ?_ ?_
    rotate_left
    · intro w'
      go_simp
      with_reducible rfl
    rotate_left
    · simp only [Act.put, List.setIfInBounds_toArray, List.set_cons_zero, List.set_cons_succ, i64_w, i32_w]
      rfl
    refine pure_ (i := 5) (N := some 14) (v := ?_) (a' := ?_) #[true, true, true, true, true, true, false, false, false, false] rfl rfl (by kernel_rfl) (fun _ _ _ h => h) (Or.inl ⟨by rfl, ?_⟩) ?_ ?_
    rotate_left
    · intro w'
      go_simp
      with_reducible rfl
    rotate_left
    · simp only [Act.put, List.setIfInBounds_toArray, List.set_cons_zero, List.set_cons_succ, i64_w, i32_w]
      rfl
    refine pure_ (i := 6) (N := some 15) (v := ?_) (a' := ?_) #[true, true, true, true, true, true, true, false, false, false] rfl rfl (by kernel_rfl) (fun _ _ _ h => h) (Or.inl ⟨by rfl, ?_⟩) ?_ ?_
    rotate_left
    · intro w'
      go_simp
      with_reducible rfl
    rotate_left
    · simp only [Act.put, List.setIfInBounds_toArray, List.set_cons_zero, List.set_cons_succ, i64_w, i32_w]
      rfl
    refine pure_ (i := 7) (N := some 16) (v := ?_) (a' := ?_) #[true, true, true, true, true, true, true, true, false, false] rfl rfl (by kernel_rfl) (fun _ _ _ h => h) (Or.inl ⟨by rfl, ?_⟩) ?_ ?_
    rotate_left
    · intro w'
      go_simp
      with_reducible rfl
    rotate_left
    · simp only [Act.put, List.setIfInBounds_toArray, List.set_cons_zero, List.set_cons_succ, i64_w, i32_w]
      rfl
    refine take_ (i := 8) (N := some 17) (v := ?_) (a' := ?_) #[true, true, true, true, true, true, true, true, true, false] rfl rfl (by kernel_rfl) (fun _ _ _ h => h) (Or.inl ⟨by rfl, ?_⟩) hHeld ?_ ?_
    rotate_left
    · rintro w' s0
      obtain ⟨s1, s2, s3⟩ := s0
      go_simp
      with_reducible rfl
    rotate_left
    · simp only [Act.put, List.setIfInBounds_toArray, List.set_cons_zero, List.set_cons_succ, i64_w, i32_w]
      rfl
    refine pure_ (i := 9) (N := some 18) (v := ?_) (a' := ?_) #[true, true, true, true, true, true, true, true, true, true] rfl rfl (by kernel_rfl) (fun _ _ _ h => h) (Or.inl ⟨by rfl, ?_⟩) ?_ ?_
    rotate_left
    · intro w'
      go_simp
      with_reducible rfl
    rotate_left
    · simp only [Act.put, List.setIfInBounds_toArray, List.set_cons_zero, List.set_cons_succ, i64_w, i32_w]
      rfl
    refine done_ (by kernel_rfl) ?_
    clear hHeld
    by_cases hne : fx = fl
    · have d1 := ne_last hne
      have HNE := Lib.hid hne
      clear hne
      gi_wp2
      exact ⟨(HWD.out).from _, HWB.out, fun y hy => (List.mem_append.1 hy).elim (HI.out y) (fun h => by rw [List.mem_singleton.1 h, ← HFX.out, ← HFL.out]; exact HNE.out), HBD.out⟩
    · have d1 : (fx != fl) = true := by simp [hne]
      have HNE := Lib.hid hne
      clear hne
      gi_wp2
      refine ⟨(HWD.out.trans (KeepsOthers.setCell u0 _ _)).from _, rfl, ⟨pre, x, rfl, HI.out, by rw [← HFX.out, ← HFL.out]; exact HNE.out, ?_⟩, (HB3.out.trans (HBD.out.mono HB3.out.size)).setCell (Nat.le_succ _) _⟩
      rw [← HIX.out]
      exact World.cell?_setCell_same _ _ _ c2
end Go.Proofs.Ytjbhnohomhnhjaa.P
